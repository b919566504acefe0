/-
  voussoirlaw17.LinkPairs: the walk.
-/
import Derived.Test.YtclldibadmnppaaLpF
import Derived.Test.YtclldibadmnppaaLnk2
namespace Go.Proofs.Ytclldibadmnppaa
open Go.RowKit
/-- acts lie in memory from an address on -/
def A17At (w : World) (a : Option Addr) (l : List A17) : Prop :=
  ∀ i x, l[i]? = some x → ∃ b o, a = some ⟨b, o, none⟩ ∧ b < w.heap.size ∧ (I64 x.what ∧ I64 x.chain ∧ I64 x.own ∧ I64 x.peer ∧ I64 x.a ∧ I64 x.b) ∧ w.cell? ⟨b, o + i * 6, none⟩ = some (.int .i64 x.what) ∧ w.cell? ⟨b, o + i * 6 + 1, none⟩ = some (.int .i64 x.chain) ∧
    w.cell? ⟨b, o + i * 6 + 2, none⟩ = some (.int .i64 x.own) ∧ w.cell? ⟨b, o + i * 6 + 3, none⟩ = some (.int .i64 x.peer) ∧ w.cell? ⟨b, o + i * 6 + 4, none⟩ = some (.int .i64 x.a) ∧ w.cell? ⟨b, o + i * 6 + 5, none⟩ = some (.int .i64 x.b)
/-- a Play that has just begun -/
theorem pl_start {w0 w : World} (n0 : New w0 w) : Pl w0 (w.alloc (.cells #[.slice none 0 0, .slice none 0 0, .slice none 0 0, .slice none 0 0] 30)) w.heap.size (fun _ => []) := by
  refine ⟨fun _ => .slice none 0 0, fun _ => .slice none 0 0, fun _ => [], heap_alloc_new w _, n0.size, ⟨fun c hc => ?_, fun c hc => ?_, fun c i h hc hi => (by cases hi), fun c hc k hk => (by cases hk), fun c hc k hk => (by cases hk)⟩, n0.alloc _⟩
  · exact World.ownsRow_nil _ _ _ _
  · exact World.ownsRow_nil _ _ _ _
set_option maxHeartbeats 8000000 in
set_option maxRecDepth 100000 in
theorem pairs_walk (A : Option Addr) (len cap : Nat) (la : List A17) (w : World) (hla : la.length = len) (h63 : len ≤ 9223372036854775807) (hA : A17At w A la) :
    Calls Try.prog 3 #[.slice A len cap] w fun e w' => e = .returned (.bool true) ∧ New w w' := by
  go_enter Try.func3, Try.ntmps3
  go_wp2_with fail
  refine (awake17_any _).mono ?_
  rintro e w1 ⟨rfl, k1⟩
  have h2 := pl_start k1
  go_upto_region 3 with (fail)
  revert h2
  generalize w1.alloc _ = w2
  generalize w1.heap.size = P
  intro h2
  go_wp2_with fail
  go_loopw [5] (fun i wr => ∃ (k : Nat) (s : His), k ≤ len ∧ k ≤ 60 ∧ i = .int .i64 k ∧ Pl w wr P s ∧ KL s ∧ ∀ c, c < 2 → (s c).length ≤ 5) (fun i _ => 60 - (intOf i).toNat)
  case atStart => exact ⟨0, fun _ => [], by omega, by omega, rfl, h2, kl_nil, fun c hc => by simp⟩
  case round =>
    clear h2
    obtain ⟨k, s, hk, hk60, rfl, h, hK, hl⟩ := hrel
    have hk0 : (0 : Int) ≤ (k : Int) := Int.natCast_nonneg _
    by_cases hlt : k < len
    · by_cases hlt2 : k < 60
      · obtain ⟨bA, oA, rfl, hbA, ⟨i0, i1, i2, i3, i4, i5⟩, c0, c1, c2, c3, c4, c5⟩ := hA k la[k] (List.getElem?_eq_getElem (by omega))
        generalize la[k] = y at *
        have hk1 : (k : Int) < (len : Int) := by omega
        have nw := h.new
        have d0 := (nw.cell (p := ⟨bA, oA + k * 6, none⟩) hbA (fun h => h)).trans c0
        have d1 := (nw.cell (p := ⟨bA, oA + k * 6 + 1, none⟩) hbA (fun h => h)).trans c1
        have d2 := (nw.cell (p := ⟨bA, oA + k * 6 + 2, none⟩) hbA (fun h => h)).trans c2
        have d3 := (nw.cell (p := ⟨bA, oA + k * 6 + 3, none⟩) hbA (fun h => h)).trans c3
        have d4 := (nw.cell (p := ⟨bA, oA + k * 6 + 4, none⟩) hbA (fun h => h)).trans c4
        have d5 := (nw.cell (p := ⟨bA, oA + k * 6 + 5, none⟩) hbA (fun h => h)).trans c5
        go_wp2_with fail
        refine (does_any w P s y i0 i1 i2 i3 i4 i5 hK hl _ h).mono ?_
        rintro e w3 ⟨rfl, s3, h3, hK3, hl3⟩
        clear h hK hl s nw d0 d1 d2 d3 d4 d5 c0 c1 c2 c3 c4 c5
        go_wp2_with fail
        go_loopw [6] (fun i wr => ∃ c : Nat, c ≤ 2 ∧ i = .int .i64 c ∧ Pl w wr P s3) (fun i _ => 2 - (intOf i).toNat)
        case atStart => exact ⟨0, by omega, rfl, h3⟩
        case round =>
          clear h3
          obtain ⟨c, hc, rfl, h⟩ := hrel
          have hc0 : (0 : Int) ≤ (c : Int) := Int.natCast_nonneg _
          by_cases hc2 : c < 2
          · have hci : (c : Int) < 2 := by omega
            go_wp2_with fail
            go_loopw [7] (fun i wr => ∃ n : Nat, n ≤ (s3 c).length ∧ i = .int .i64 n ∧ Pl w wr P s3) (fun i _ => (s3 c).length - (intOf i).toNat)
            case atStart => exact ⟨0, by omega, rfl, h⟩
            case round =>
              clear h
              obtain ⟨n, hn, rfl, h⟩ := hrel
              have hn0 : (0 : Int) ≤ (n : Int) := Int.natCast_nonneg _
              by_cases hn2 : n < (s3 c).length
              · obtain ⟨hh, hhk⟩ : ∃ hh, (s3 c)[n]? = some hh := ⟨_, List.getElem?_eq_getElem hn2⟩
                obtain ⟨L, hL⟩ : ∃ L, Hid ((s3 c).length = L) := ⟨_, rfl⟩
                have nL : (n : Int) < (L : Int) := by rw [← hL.out]; omega
                have hL5 : L ≤ 5 := by rw [← hL.out]; exact hl3 c hc2
                obtain ⟨l, hlk⟩ : ∃ l, Hid (lastL hh = l) := ⟨_, rfl⟩
                have h0 := h
                obtain ⟨E, V, B, hp⟩ := h
                have hE := hp.bdy.ends c hc2
                obtain ⟨ge, ecap, hEe, -, -⟩ := own_some hE (by rw [ends_len, hL.out]; omega)
                have pE := (hp.blk.cell hc2).1
                rw [hEe, ends_len, hL.out] at pE hE
                have hV := hp.bdy.was c hc2
                obtain ⟨gv, vcap, hVe, -, -⟩ := own_some hV (by rw [hL.out]; omega)
                have pV := (hp.blk.cell hc2).2.1
                rw [hVe, hL.out] at pV hV
                obtain ⟨v, hv1, ⟨hv2, hv3, -⟩, -⟩ := hp.bdy.his c n hh hc2 hhk
                obtain ⟨gh, hcap, rfl, -, -⟩ := own_some hv2 hv3
                have dv := slot_at hV hv1
                have hk2 := ends_at hhk
                rw [hlk.out] at hk2
                obtain ⟨d0, d1, d2, d3⟩ := link_at hE hk2
                have hlen := kl_len (hK3 c n hh hc2 hhk)
                have hpeer := fun h3 => kl_peer hK3 hc2 hhk h3
                rw [hlk.out] at hpeer
                have ka : New wr (wr.alloc (.cells #[.int .i64 (l.st : Nat), .int .u64 (l.cl : Nat), .int .u64 (l.pe : Nat), .int .u64 (l.pc : Nat)] 36)) := (Keeps.refl _ wr).alloc _
                have qa : lk (wr.alloc (.cells #[.int .i64 (l.st : Nat), .int .u64 (l.cl : Nat), .int .u64 (l.pe : Nat), .int .u64 (l.pc : Nat)] 36)) wr.heap.size l := heap_alloc_new wr _
                have pV2 := (ka.cell (p := ⟨P, 2 + c, none⟩) (Array.getElem?_eq_some_iff.1 hp.blk).1 (fun h => h)).trans pV
                have dv2 := (ka.cell (p := ⟨gv, n, none⟩) (World.ownsRow.lt hV gv rfl).2 (fun h => h)).trans dv
                have hv4 := Keeps.owns ka hv2 (fun _ _ h => h)
                have h1 := h0.keep ka
                go_upto_region 14 with (fail)
                clear hE hV pE pV dv hv2 hk2 d0 d1 d2 d3 hp h0 ka hv1 hEe hVe
                revert qa pV2 dv2 hv4 h1
                generalize wr.alloc _ = W
                generalize wr.heap.size = Q
                intro qa pV dv hv4 h
                have dl := qa.cells
                obtain ⟨hm, hhm⟩ : ∃ hm, Hid (hh.length = hm) := ⟨_, rfl⟩
                rw [hhm.out] at dv
                go_upto_region 15 with (fail)
                go_cut [80] from 34 to 80 (fun v wx => v = .bool false ∧ wx = W)
                case first =>
                  rcases hlen with h1 | ⟨h2, a, b, rfl, ha3, hb3⟩
                  · have b1 : ¬ (1 : Int) < (hm : Int) := by rw [← hhm.out]; omega
                    have b2 : ¬ (2 : Int) < (hm : Int) := by omega
                    go_wp2_with fail
                    go_meet
                    case rel => exact ⟨rfl, rfl⟩
                  · have b0 : (hm : Int) = 2 := by rw [← hhm.out]; rfl
                    have b1 : (1 : Int) < (hm : Int) := by omega
                    have b2 : ¬ (2 : Int) < (hm : Int) := by omega
                    have b3 : IntKind.i64.wrap ((hm : Int) - 2) = 0 := by rw [b0]; rfl
                    have b4 : ((a.st : Int) == 3) = false := by simp; omega
                    have b5 : (0 : Int) < (hm : Int) := by omega
                    obtain ⟨x0, -, -, -⟩ := link_at hv4 (i := 0) (x := a) rfl
                    rw [Nat.zero_mul] at x0
                    clear b0
                    go_wp2_with fail
                    go_meet
                    case rel => exact ⟨rfl, rfl⟩
                case rest =>
                  obtain ⟨rfl, rfl⟩ := hcut
                  clear hlen hv4
                  by_cases h3 : l.st = 3
                  · have h3b : ((l.st : Int) != 3) = false := by simp; omega
                    obtain ⟨q, hq, g1, g2, g3, g4⟩ := hpeer h3
                    clear hpeer
                    obtain ⟨o, ho⟩ : ∃ o, Hid (1 - c = o) := ⟨_, rfl⟩
                    rw [ho.out] at hq
                    have ho2 : o < 2 := by rw [← ho.out]; omega
                    have eo : IntKind.i64.wrap (1 - (c : Int)) = (o : Int) := by rw [IntWalk.i64_in _ ⟨by omega, by omega⟩, ← ho.out]; omega
                    have o0 : (0 : Int) ≤ (o : Int) := Int.natCast_nonneg _
                    have o2 : (o : Int) < 2 := by omega
                    obtain ⟨m, hml⟩ : ∃ m, Hid (lastL q = m) := ⟨_, rfl⟩
                    have hq2 := ends_at hq
                    rw [hml.out] at hq2 g1 g2 g3 g4
                    have GG : Hid (2 ≤ m.st ∧ m.pe = n ∧ m.cl = l.pc ∧ m.pc = l.cl) := ⟨g1, g2, g3, g4⟩
                    clear g1 g2 g3 g4
                    have peN := (List.getElem?_eq_some_iff.1 hq).1
                    obtain ⟨Lo, hLo⟩ : ∃ Lo, Hid ((s3 o).length = Lo) := ⟨_, rfl⟩
                    rw [hLo.out] at peN
                    have hLo5 : Lo ≤ 5 := by rw [← hLo.out]; exact hl3 o ho2
                    have peL : (l.pe : Int) < (Lo : Int) := by omega
                    have pe0 : (0 : Int) ≤ (l.pe : Int) := Int.natCast_nonneg _
                    have eLo : IntKind.u64.wrap (Lo : Int) = (Lo : Int) := IntWalk.u64_in _ ⟨by omega, by omega⟩
                    have peL2 : ¬ (Lo : Int) ≤ (l.pe : Int) := by omega
                    have h0 := h
                    obtain ⟨E, V, B, hp⟩ := h
                    have hO := hp.bdy.ends o ho2
                    obtain ⟨gO, ocap, hOe, -, gOlt⟩ := own_some hO (by rw [ends_len, hLo.out]; omega)
                    have pO := (hp.blk.cell ho2).1
                    rw [hOe, ends_len, hLo.out] at pO hO
                    obtain ⟨m0, m1, m2, m3⟩ := link_at hO hq2
                    have Plt : P < wc.heap.size := (Array.getElem?_eq_some_iff.1 hp.blk).1
                    clear hp hO hOe hq hq2
                    have h := h0
                    clear h0
                    go_wp2_with fail
                    have hA0 : New wc wc.drew := (Keeps.refl _ wc).drew
                    refine wp_region_held_drew (S := (fun w' => New wc w')) (by kernel_rfl) ?_ (fun hHeld => ?_)
                    · exact hA0
                    refine wpAnyH_take (i := 0) (oi := ⟨some 84, _, _, _, _, _⟩) (v := ?_) rfl (by kernel_rfl) (by kernel_rfl) (by kernel_rfl) (fun _ _ _ h => h) (Or.inl ⟨by rfl, ?_⟩) (by assumption) ?_
                    rotate_left
                    · (intro wq hSw; (try dsimp only at hSw); go_simp; try with_reducible rfl)
                    try simp only [Act.put, List.setIfInBounds_toArray, List.set_cons_zero, List.set_cons_succ]
                    refine wpAnyH_take (i := 1) (oi := ⟨some 85, _, _, _, _, _⟩) (v := ?_) rfl (by kernel_rfl) (by kernel_rfl) (by kernel_rfl) (fun _ _ _ h => h) (Or.inl ⟨by rfl, ?_⟩) (by assumption) ?_
                    rotate_left
                    · (intro wq hSw; (try dsimp only at hSw); have d := (qa.keep hSw).cells; go_simp; try with_reducible rfl)
                    try simp only [Act.put, List.setIfInBounds_toArray, List.set_cons_zero, List.set_cons_succ]
                    refine wpAnyH_take (i := 2) (oi := ⟨some 86, _, _, _, _, _⟩) (v := ?_) rfl (by kernel_rfl) (by kernel_rfl) (by kernel_rfl) (fun _ _ _ h => h) (Or.inl ⟨by rfl, ?_⟩) (by assumption) ?_
                    rotate_left
                    · (intro wq hSw; (try dsimp only at hSw); go_simp; try with_reducible rfl)
                    try simp only [Act.put, List.setIfInBounds_toArray, List.set_cons_zero, List.set_cons_succ]
                    refine wpAnyH_take (i := 3) (oi := ⟨some 87, _, _, _, _, _⟩) (v := ?_) rfl (by kernel_rfl) (by kernel_rfl) (by kernel_rfl) (fun _ _ _ h => h) (Or.inl ⟨by rfl, ?_⟩) (by assumption) ?_
                    rotate_left
                    · (intro wq hSw; (try dsimp only at hSw); go_simp; try with_reducible rfl)
                    try simp only [Act.put, List.setIfInBounds_toArray, List.set_cons_zero, List.set_cons_succ]
                    refine wpAnyH_take (i := 4) (oi := ⟨some 88, _, _, _, _, _⟩) (v := ?_) rfl (by kernel_rfl) (by kernel_rfl) (by kernel_rfl) (fun _ _ _ h => h) (Or.inl ⟨by rfl, ?_⟩) (by assumption) ?_
                    rotate_left
                    · (intro wq hSw; (try dsimp only at hSw); go_simp; try with_reducible rfl)
                    try simp only [Act.put, List.setIfInBounds_toArray, List.set_cons_zero, List.set_cons_succ]
                    refine wpAnyH_take (i := 5) (oi := ⟨some 89, _, _, _, _, _⟩) (v := ?_) rfl (by kernel_rfl) (by kernel_rfl) (by kernel_rfl) (fun _ _ _ h => h) (Or.inl ⟨by rfl, ?_⟩) (by assumption) ?_
                    rotate_left
                    · (intro wq hSw; (try dsimp only at hSw); go_simp; try with_reducible rfl)
                    try simp only [Act.put, List.setIfInBounds_toArray, List.set_cons_zero, List.set_cons_succ]
                    refine wpAnyH_take (i := 6) (oi := ⟨some 90, _, _, _, _, _⟩) (v := ?_) rfl (by kernel_rfl) (by kernel_rfl) (by kernel_rfl) (fun _ _ _ h => h) (Or.inl ⟨by rfl, ?_⟩) (by assumption) ?_
                    rotate_left
                    · (intro wq hSw; (try dsimp only at hSw); go_simp; try with_reducible rfl)
                    try simp only [Act.put, List.setIfInBounds_toArray, List.set_cons_zero, List.set_cons_succ]
                    refine wpAnyH_take (i := 7) (oi := ⟨some 91, _, _, _, _, _⟩) (v := ?_) rfl (by kernel_rfl) (by kernel_rfl) (by kernel_rfl) (fun _ _ _ h => h) (Or.inl ⟨by rfl, ?_⟩) (by assumption) ?_
                    rotate_left
                    · (intro wq hSw; (try dsimp only at hSw); go_simp; try with_reducible rfl)
                    try simp only [Act.put, List.setIfInBounds_toArray, List.set_cons_zero, List.set_cons_succ]
                    refine wpAnyH_take (i := 8) (oi := ⟨some 92, _, _, _, _, _⟩) (v := ?_) rfl (by kernel_rfl) (by kernel_rfl) (by kernel_rfl) (fun _ _ _ h => h) (Or.inl ⟨by rfl, ?_⟩) (by assumption) ?_
                    rotate_left
                    · (intro wq hSw; (try dsimp only at hSw); have d := (hSw.cell (p := ⟨P, o, none⟩) Plt (fun h => h)).trans pO; go_simp; try with_reducible rfl)
                    try simp only [Act.put, List.setIfInBounds_toArray, List.set_cons_zero, List.set_cons_succ]
                    refine wpAnyH_take (i := 9) (oi := ⟨some 93, _, _, _, _, _⟩) (v := ?_) rfl (by kernel_rfl) (by kernel_rfl) (by kernel_rfl) (fun _ _ _ h => h) (Or.inl ⟨by rfl, ?_⟩) (by assumption) ?_
                    rotate_left
                    · (intro wq hSw; (try dsimp only at hSw); go_simp; try with_reducible rfl)
                    try simp only [Act.put, List.setIfInBounds_toArray, List.set_cons_zero, List.set_cons_succ]
                    refine wpAnyH_take (i := 10) (oi := ⟨some 94, _, _, _, _, _⟩) (v := ?_) rfl (by kernel_rfl) (by kernel_rfl) (by kernel_rfl) (fun _ _ _ h => h) (Or.inl ⟨by rfl, ?_⟩) (by assumption) ?_
                    rotate_left
                    · (intro wq hSw; (try dsimp only at hSw); go_simp; try with_reducible rfl)
                    try simp only [Act.put, List.setIfInBounds_toArray, List.set_cons_zero, List.set_cons_succ]
                    refine wpAnyH_take (i := 11) (oi := ⟨some 95, _, _, _, _, _⟩) (v := ?_) rfl (by kernel_rfl) (by kernel_rfl) (by kernel_rfl) (fun _ _ _ h => h) (Or.inl ⟨by rfl, ?_⟩) (by assumption) ?_
                    rotate_left
                    · (intro wq hSw; (try dsimp only at hSw); go_simp; try with_reducible rfl)
                    try simp only [Act.put, List.setIfInBounds_toArray, List.set_cons_zero, List.set_cons_succ]
                    refine wpAnyH_done (by kernel_rfl) ?_ _
                    go_upto_region 20 with (fail)
                    go_cut [10] from 34 to 107 (fun v wx => ∃ Qm : Nat, v = .pointer (some ⟨Qm, 0, none⟩) ∧ Pl w wx P s3 ∧ lk wx Q l ∧ lk wx Qm m)
                    case first =>
                      have hB : New wc wc.drew.drew := ((Keeps.refl _ wc).drew).drew
                      refine wp_region_held_drew (S := (fun w' => New wc w')) (by kernel_rfl) ?_ (fun hHeld => ?_)
                      · exact hB
                      refine wpAnyH_take (i := 0) (oi := ⟨some 96, _, _, _, _, _⟩) (v := ?_) rfl (by kernel_rfl) (by kernel_rfl) (by kernel_rfl) (fun _ _ _ h => h) (Or.inl ⟨by rfl, ?_⟩) (by assumption) ?_
                      rotate_left
                      · (intro wq hSw; (try dsimp only at hSw); go_simp; try with_reducible rfl)
                      try simp only [Act.put, List.setIfInBounds_toArray, List.set_cons_zero, List.set_cons_succ]
                      refine wpAnyH_take (i := 1) (oi := ⟨some 97, _, _, _, _, _⟩) (v := ?_) rfl (by kernel_rfl) (by kernel_rfl) (by kernel_rfl) (fun _ _ _ h => h) (Or.inl ⟨by rfl, ?_⟩) (by assumption) ?_
                      rotate_left
                      · (intro wq hSw; (try dsimp only at hSw); go_simp; try with_reducible rfl)
                      try simp only [Act.put, List.setIfInBounds_toArray, List.set_cons_zero, List.set_cons_succ]
                      refine wpAnyH_take (i := 2) (oi := ⟨some 98, _, _, _, _, _⟩) (v := ?_) rfl (by kernel_rfl) (by kernel_rfl) (by kernel_rfl) (fun _ _ _ h => h) (Or.inl ⟨by rfl, ?_⟩) (by assumption) ?_
                      rotate_left
                      · (intro wq hSw; (try dsimp only at hSw); go_simp; try with_reducible rfl)
                      try simp only [Act.put, List.setIfInBounds_toArray, List.set_cons_zero, List.set_cons_succ]
                      refine wpAnyH_take (i := 3) (oi := ⟨some 99, _, _, _, _, _⟩) (v := ?_) rfl (by kernel_rfl) (by kernel_rfl) (by kernel_rfl) (fun _ _ _ h => h) (Or.inl ⟨by rfl, ?_⟩) (by assumption) ?_
                      rotate_left
                      · (intro wq hSw; (try dsimp only at hSw); go_simp; try with_reducible rfl)
                      try simp only [Act.put, List.setIfInBounds_toArray, List.set_cons_zero, List.set_cons_succ]
                      refine wpAnyH_take (i := 4) (oi := ⟨some 100, _, _, _, _, _⟩) (v := ?_) rfl (by kernel_rfl) (by kernel_rfl) (by kernel_rfl) (fun _ _ _ h => h) (Or.inl ⟨by rfl, ?_⟩) (by assumption) ?_
                      rotate_left
                      · (intro wq hSw; (try dsimp only at hSw); go_simp; try with_reducible rfl)
                      try simp only [Act.put, List.setIfInBounds_toArray, List.set_cons_zero, List.set_cons_succ]
                      refine wpAnyH_take (i := 5) (oi := ⟨some 101, _, _, _, _, _⟩) (v := ?_) rfl (by kernel_rfl) (by kernel_rfl) (by kernel_rfl) (fun _ _ _ h => h) (Or.inl ⟨by rfl, ?_⟩) (by assumption) ?_
                      rotate_left
                      · (intro wq hSw; (try dsimp only at hSw); go_simp; try with_reducible rfl)
                      try simp only [Act.put, List.setIfInBounds_toArray, List.set_cons_zero, List.set_cons_succ]
                      refine wpAnyH_take (i := 6) (oi := ⟨some 102, _, _, _, _, _⟩) (v := ?_) rfl (by kernel_rfl) (by kernel_rfl) (by kernel_rfl) (fun _ _ _ h => h) (Or.inl ⟨by rfl, ?_⟩) (by assumption) ?_
                      rotate_left
                      · (intro wq hSw; (try dsimp only at hSw); have d := (hSw.cell (p := ⟨P, o, none⟩) Plt (fun h => h)).trans pO; go_simp; try with_reducible rfl)
                      try simp only [Act.put, List.setIfInBounds_toArray, List.set_cons_zero, List.set_cons_succ]
                      refine wpAnyH_take (i := 7) (oi := ⟨some 103, _, _, _, _, _⟩) (v := ?_) rfl (by kernel_rfl) (by kernel_rfl) (by kernel_rfl) (fun _ _ _ h => h) (Or.inl ⟨by rfl, ?_⟩) (by assumption) ?_
                      rotate_left
                      · (intro wq hSw; (try dsimp only at hSw); go_simp; try with_reducible rfl)
                      try simp only [Act.put, List.setIfInBounds_toArray, List.set_cons_zero, List.set_cons_succ]
                      refine wpAnyH_take (i := 8) (oi := ⟨some 104, _, _, _, _, _⟩) (v := ?_) rfl (by kernel_rfl) (by kernel_rfl) (by kernel_rfl) (fun _ _ _ h => h) (Or.inl ⟨by rfl, ?_⟩) (by assumption) ?_
                      rotate_left
                      · (intro wq hSw; (try dsimp only at hSw); have d := (qa.keep hSw).cells; go_simp; try with_reducible rfl)
                      try simp only [Act.put, List.setIfInBounds_toArray, List.set_cons_zero, List.set_cons_succ]
                      refine wpAnyH_take (i := 9) (oi := ⟨some 105, _, _, _, _, _⟩) (v := ?_) rfl (by kernel_rfl) (by kernel_rfl) (by kernel_rfl) (fun _ _ _ h => h) (Or.inl ⟨by rfl, ?_⟩) (by assumption) ?_
                      rotate_left
                      · (intro wq hSw; (try dsimp only at hSw); go_simp; try with_reducible rfl)
                      try simp only [Act.put, List.setIfInBounds_toArray, List.set_cons_zero, List.set_cons_succ]
                      refine wpAnyH_take (i := 10) (oi := ⟨some 106, _, _, _, _, _⟩) (v := ?_) rfl (by kernel_rfl) (by kernel_rfl) (by kernel_rfl) (fun _ _ _ h => h) (Or.inl ⟨by rfl, ?_⟩) (by assumption) ?_
                      rotate_left
                      · (intro wq hSw; (try dsimp only at hSw); have e0 := (hSw.cell (p := ⟨gO, l.pe * 4, none⟩) gOlt (fun h => h)).trans m0; have e1 := (hSw.cell (p := ⟨gO, l.pe * 4 + 1, none⟩) gOlt (fun h => h)).trans m1; have e2 := (hSw.cell (p := ⟨gO, l.pe * 4 + 2, none⟩) gOlt (fun h => h)).trans m2; have e3 := (hSw.cell (p := ⟨gO, l.pe * 4 + 3, none⟩) gOlt (fun h => h)).trans m3; go_simp; try with_reducible rfl)
                      try simp only [Act.put, List.setIfInBounds_toArray, List.set_cons_zero, List.set_cons_succ]
                      refine wpAnyH_ready (rs := [11]) (by kernel_rfl) (by simp) ?_
                      refine AllReadyH.cons (o := ⟨some 10, _, _, _, _, _⟩) rfl (fun K hK => ?_) AllReadyH.nil
                      go_simp
                      refine hK.out _ _ (hHeld.alloc _) (fun hHeld => ?_)
                      clear hK K
                      try simp only [Act.put, List.setIfInBounds_toArray, List.set_cons_zero, List.set_cons_succ]
                      refine wpAnyH_ready (rs := [12]) (by kernel_rfl) (by simp) ?_
                      refine AllReadyH.cons (o := ⟨none, _, _, _, _, _⟩) rfl (fun K hK => ?_) AllReadyH.nil
                      go_simp
                      refine hK.out _ _ (by first | exact hB.alloc _ | exact (((hHeld.set hB.size 0 _).set hB.size 1 _).set hB.size 2 _).set hB.size 3 _) (fun hHeld => ?_)
                      clear hK K
                      try simp only [Act.put, List.setIfInBounds_toArray, List.set_cons_zero, List.set_cons_succ]
                      refine wpAnyH_done (by kernel_rfl) ?_ _
                      all_goals
                        go_wp2_with fail
                        go_meet
                        case rel => exact ⟨_, rfl, h.keep hHeld, qa.keep hHeld, heap_alloc_new wc _⟩
                    case rest =>
                      clear h qa dl m0 m1 m2 m3 pO
                      obtain ⟨Qm, rfl, h, qa, qm⟩ := hcut
                      have dl := qa.cells
                      have dm := qm.cells
                      obtain ⟨g1, g2, g3, g4⟩ := GG.out
                      have u1 : ¬ (m.st : Int) < 2 := by omega
                      have u2 : ((m.pe : Int) != (n : Int)) = false := by simp; omega
                      have u3 : ((m.cl : Int) != (l.pc : Int)) = false := by simp; omega
                      have u4 : ((m.pc : Int) != (l.cl : Int)) = false := by simp; omega
                      have en : IntKind.u64.wrap (n : Int) = (n : Int) := IntWalk.u64_in _ ⟨by omega, by omega⟩
                      clear g1 g2 g3 g4
                      go_wp2_with fail
                      go_roundw
                      case rel => exact ⟨n + 1, by omega, by go_num, h⟩
                      case measure => simp [intOf]; omega
                  · have h3b : ((l.st : Int) != 3) = true := by simp; omega
                    go_wp2_with fail
                    go_roundw
                    case rel => exact ⟨n + 1, by omega, by go_num, h⟩
                    case measure => simp [intOf]; omega
              · obtain rfl : n = (s3 c).length := by omega
                obtain ⟨E, V, B, hp⟩ := h
                have hE := hp.bdy.ends c hc2
                obtain ⟨va, ecap, hEe⟩ := own_form hE
                have pE := (hp.blk.cell hc2).1
                rw [hEe, ends_len] at pE
                have h : Pl w wr P s3 := ⟨E, V, B, hp⟩
                clear hp hE
                go_wp2_with fail
                go_roundw
                case rel => exact ⟨c + 1, by omega, by go_num, h⟩
                case measure => simp [intOf]; omega
          · go_wp2_with fail
            go_roundw
            case rel => exact ⟨k + 1, s3, by omega, by omega, by go_num, h, hK3, hl3⟩
            case measure => simp [intOf]; omega
      · go_wp2_with fail
        go_ret
        exact ⟨rfl, h.new⟩
    · go_wp2_with fail
      go_ret
      exact ⟨rfl, h.new⟩
end Go.Proofs.Ytclldibadmnppaa
