/-
  voussoirlaw10.BankKeeps: the walk.
-/
import Derived.Test.YtcldbipipehedaaBOp
import Derived.Test.YtcldbipipehedaaBkK
import Derived.Sort.Walk0
namespace Go.Proofs.Ytcldbipipehedaa
open Go.RowKit Go.ChangeMaps
set_option maxHeartbeats 16000000 in
set_option maxRecDepth 100000 in
theorem keeps_walk (A : Option Addr) (len cap : Nat) (la : List A10) (w : World)
    (hla : la.length = len) (h63 : len ≤ 9223372036854775807) (hA : A10At w A la) :
    Calls Try.prog 10 #[.slice A len cap] w fun e w' => e = .returned (.bool true) ∧ New w w' := by
  go_enter Try.func10, Try.ntmps10
  go_wp2_with fail
  refine (awakeB_any _).mono ?_
  rintro e w3 ⟨rfl, n3⟩
  go_wp2_with fail
  refine (sgNewC n3).mono ?_
  rintro e w4 ⟨B, rfl, h4, -⟩
  clear n3
  have s4 := sumI_empty
  generalize emptyB = s0 at *
  go_wp2_with fail
  go_loopw [5] (fun i wr => ∃ (k n : Nat) (s : BkS), k ≤ len ∧ k ≤ 50 ∧ n ≤ 2 * k ∧ i = .int .i64 k ∧ SumI s ∧ Sg w wr B n s)
    (fun i _ => 50 - (intOf i).toNat)
  case atStart => exact ⟨0, 0, s0, by omega, by omega, by omega, rfl, s4, h4⟩
  case round =>
    clear h4 s4
    obtain ⟨k, n, s, hk, hk50, hn, rfl, s7, h7⟩ := hrel
    have hk0 : (0 : Int) ≤ (k : Int) := Int.natCast_nonneg _
    by_cases hlt : k < len
    · by_cases hlt2 : k < 50
      · obtain ⟨bA, oA, rfl, hbA, oy, c0, c1, c2, c3, c4⟩ := hA k la[k] (List.getElem?_eq_getElem (by omega))
        generalize la[k] = y at *
        have hk1 : (k : Int) < (len : Int) := by omega
        have nw := h7.new
        have d0 := (nw.cell (p := ⟨bA, oA + k * 5, none⟩) hbA (fun h => h)).trans c0
        have d1 := (nw.cell (p := ⟨bA, oA + k * 5 + 1, none⟩) hbA (fun h => h)).trans c1
        have d2 := (nw.cell (p := ⟨bA, oA + k * 5 + 2, none⟩) hbA (fun h => h)).trans c2
        have d3 := (nw.cell (p := ⟨bA, oA + k * 5 + 3, none⟩) hbA (fun h => h)).trans c3
        have d4 := (nw.cell (p := ⟨bA, oA + k * 5 + 4, none⟩) hbA (fun h => h)).trans c4
        have k8 := (New.refl wr).alloc (.cells #[.int .i64 y.what, .int .i64 y.fr, .int .i64 y.to, .int .i64 y.den, .int .u64 (y.n : Nat)] 69)
        have y8 : aB (wr.alloc (.cells #[.int .i64 y.what, .int .i64 y.fr, .int .i64 y.to, .int .i64 y.den, .int .u64 (y.n : Nat)] 69)) wr.heap.size y := heap_alloc_new wr _
        have h8 := h7.keep k8
        go_upto_region 9 with (fail)
        clear h7 nw d0 d1 d2 d3 d4 k8 c0 c1 c2 c3 c4
        revert y8 h8
        generalize wr.alloc _ = w8
        generalize wr.heap.size = q
        intro y8 h8
        have oy2 := oy
        obtain ⟨i0, i1, i2, i3, i4⟩ := oy2
        have DX := fun w => denomB_any y.den i3 w
        have P1 := fun w => pickB_any y.what 6 w i0 (by omega) (by omega)
        have hkk := pk_lt y.what 6 (by omega)
        have hl0 := dbL_len9 (pk y.den 4)
        have hno := fun h => ds_no (s := s) (x := y) h
        have hyes := fun h => ds_sup (s := s) (x := y) h
        have e8 := y8.cells
        have ltn := i4.lt
        have s9 := s7.does y
        go_wp2_with fail
        refine (DX _).mono ?_
        rintro e z1 ⟨rfl, y1⟩
        have g1 := h8.keep y1
        have b1 := y8.keep y1
        clear h8 y8 y1 e8
        have hS1 := g1.sup (dbL (pk y.den 4)) hl0
        go_wp2_with fail
        refine hS1.mono ?_
        rintro e z2 ⟨rfl, rfl⟩
        clear hS1
        have e1 := b1.cells
        have D1 := g1.act (fun ma sa hb => does_any B ma sa n s y oy (by omega) _ hb)
        have D2 : ∀ z (g : Sg w z B (n + 2) (dsS s y)), _ := fun z g => g.sup (dbL (pk y.den 4)) hl0
        generalize dsE s y = E at *
        generalize dsS s y = t at *
        generalize dbL (pk y.den 4) = d at *
        generalize pk y.what 6 = kk at *
        go_wp2_with fail
        refine D1.mono ?_
        rintro e z3 ⟨rfl, g3, k3⟩
        have b3 := b1.kc k3
        clear D1 g1 b1 e1 k3
        have e3 := b3.cells
        have w1 := addM_wrap (s.sup d) y.n
        have w2 := subM_wrap (s.sup d) y.n (by omega)
        replace D2 := D2 _ g3
        by_cases hE : E = 0
        case' pos =>
          subst hE
          replace hyes := hyes rfl
          clear hno
          go_wp2_with fail
          refine (P1 _).mono ?_
          rintro e z4 ⟨rfl, rfl⟩
          rcases (by omega : kk = 0 ∨ kk = 1 ∨ kk = 2 ∨ 3 ≤ kk) with rfl | rfl | rfl | h3
          case' inl => rw [hyes, supW_mint (by omega)] at D2
          case' inr.inl => rw [hyes, supW_mint (by omega)] at D2
          case' inr.inr.inl => rw [hyes, supW_burn rfl] at D2
          case' inr.inr.inr =>
            rw [hyes, supW_send h3] at D2
            have q0 : ((kk : Int) == 0) = false := by simp; omega
            have q1 : ((kk : Int) == 1) = false := by simp; omega
            have q2 : ((kk : Int) == 2) = false := by simp; omega
        case' neg =>
          obtain rfl := hno hE
          have q0 : (E == 0) = false := by simpa using hE
        all_goals
          go_wp2_with fail
          refine D2.mono ?_
          rintro e z5 ⟨rfl, rfl⟩
          clear D2 e3 b3 DX P1 w1 w2 hyes
          go_wp2_with fail
          go_loopw [11] (fun i wr => ∃ m : Nat, m ≤ 4 ∧ i = .int .i64 m ∧ Sg w wr B (n + 2) t) (fun i _ => 4 - (intOf i).toNat)
          case atStart => exact ⟨0, by omega, rfl, g3⟩
          case round =>
            clear g3
            obtain ⟨m, hm, rfl, g⟩ := hrel
            have hm0 : (0 : Int) ≤ (m : Int) := Int.natCast_nonneg _
            by_cases hm4 : m < 4
            · have DM := fun w => denomB_any (m : Int) ⟨by omega, by omega⟩ w
              have hl1 := dbL_len9 (pk (m : Int) 4)
              generalize dbL (pk (m : Int) 4) = u at *
              go_wp2_with fail
              refine (DM _).mono ?_
              rintro e z1 ⟨rfl, y1⟩
              have g1 := g.keep y1
              clear g y1
              go_wp2_with fail
              refine (g1.hol (by omega) u hl1).mono ?_
              rintro e z2 ⟨A2, ca, l, rfl, hH, hln, sA, y2⟩
              have g2 := g1.keep y2
              clear g1 y2
              have hT := s9.hold hH
              have hLT := s9.lt u
              obtain ⟨ln, hlen⟩ : ∃ q, q = l.length := ⟨_, rfl⟩
              rw [← hlen]
              have hl2 : l.length ≤ ln := by omega
              have hl3 : ln ≤ l.length := by omega
              have hl4 : ln ≤ 1000 := by omega
              clear hlen
              go_wp2_with fail
              go_loopw [12, 14] (fun sm j wr => ∃ jj : Nat, jj ≤ ln ∧ j = .int .i64 jj ∧ sm = .int .u64 (sumT (t.bal u) l jj : Nat) ∧ Sg w wr B (n + 2) t ∧ StrsO wr A2 l) (fun _ j _ => ln - (intOf j).toNat)
              case atStart => exact ⟨0, by omega, rfl, rfl, g2, sA⟩
              case round =>
                clear g2 sA
                obtain ⟨jj, hj, rfl, rfl, g, sA⟩ := hrel
                have hj0 : (0 : Int) ≤ (jj : Int) := Int.natCast_nonneg _
                have hle := sumT_le (t.bal u) l jj
                rw [hT] at hle
                by_cases hjl : jj < ln
                · have hx : l[jj]? = some l[jj] := List.getElem?_eq_getElem (by omega)
                  obtain ⟨ga, rfl, hga, hca⟩ := sA jj _ hx
                  have hjl1 : (jj : Int) < (ln : Int) := by omega
                  have hsu := sumT_succ (t.bal u) l hx
                  have hid := Lib.hid hsu
                  have hle2 := sumT_le (t.bal u) l (jj + 1)
                  rw [hT, hsu] at hle2
                  clear hsu
                  obtain ⟨hal, hnz⟩ := (hH.2 l[jj]).1 (List.mem_of_getElem? hx)
                  have hpr : ∀ a, l[jj]? = some a → 0 < jj → ∃ b, l[jj - 1]? = some b ∧ b < a := fun a ha hp => ⟨l[jj - 1]'(by omega), List.getElem?_eq_getElem (by omega), hold_lt hH (List.getElem?_eq_getElem (by omega)) (by rw [show jj - 1 + 1 = jj by omega]; exact ha)⟩
                  replace hpr := hpr _ hx
                  have hBL := fun z (g : Sg w z B (n + 2) t) => g.bal u l[jj] hl1 (by unfold maxLen at hal; omega)
                  have hSU := fun z (g : Sg w z B (n + 2) t) => g.sup u hl1
                  have ltS := s9.lt u
                  have gd := g.drew
                  have sAd : StrsO wr.drew (some ⟨ga, 0, none⟩) l := fun i y hy => sA i y hy
                  clear hal hx hH
                  generalize l[jj] = a at *
                  generalize t.bal u a = nb at *
                  generalize hSS : sumT (t.bal u) l jj = S1 at *
                  generalize t.sup u = SU at *
                  clear g sA hSS
                  have e1 : ((nb : Int) == 0) = false := by simp; omega
                  have e2 : IntKind.u64.wrap ((SU : Int) - (S1 : Int)) = (SU : Int) - (S1 : Int) := IntWalk.u64_in _ ⟨by omega, by omega⟩
                  have e3 : decide ((SU : Int) - (S1 : Int) < (nb : Int)) = false := by simp; omega
                  have e4 : IntKind.u64.wrap ((S1 : Int) + (nb : Int)) = (S1 : Int) + (nb : Int) := IntWalk.u64_in _ ⟨by omega, by omega⟩
                  go_wp2_with fail
                  refine wp_region_held_drew (S := (fun w' => Sg w w' B (n + 2) t ∧ StrsO w' (some ⟨ga, 0, none⟩) l ∧ w'.cell? ⟨ga, jj, none⟩ = some (.string ⟨a.toArray⟩) ∧ ga < w'.heap.size)) (by kernel_rfl) ?_ (fun hHeld => ?_)
                  · exact ⟨gd, sAd, hca, hga⟩
                  refine wpAnyH_take (i := 0) (oi := ⟨some 85, _, _, _, _, _⟩) (v := ?_) rfl (by kernel_rfl) (by kernel_rfl) (by kernel_rfl) (fun _ _ _ h => h) (Or.inl ⟨by rfl, ?_⟩) (by assumption) ?_
                  rotate_left
                  · (intro wq hSw; (try dsimp only at hSw); go_simp; try with_reducible rfl)
                  try simp only [Act.put, List.setIfInBounds_toArray, List.set_cons_zero, List.set_cons_succ]
                  refine wpAnyH_take (i := 1) (oi := ⟨some 86, _, _, _, _, _⟩) (v := ?_) rfl (by kernel_rfl) (by kernel_rfl) (by kernel_rfl) (fun _ _ _ h => h) (Or.inl ⟨by rfl, ?_⟩) (by assumption) ?_
                  rotate_left
                  · (intro wq hSw; (try dsimp only at hSw); go_simp; try with_reducible rfl)
                  try simp only [Act.put, List.setIfInBounds_toArray, List.set_cons_zero, List.set_cons_succ]
                  refine wpAnyH_take (i := 2) (oi := ⟨some 87, _, _, _, _, _⟩) (v := ?_) rfl (by kernel_rfl) (by kernel_rfl) (by kernel_rfl) (fun _ _ _ h => h) (Or.inl ⟨by rfl, ?_⟩) (by assumption) ?_
                  rotate_left
                  · (intro wq hSw; (try dsimp only at hSw); go_simp; try with_reducible rfl)
                  try simp only [Act.put, List.setIfInBounds_toArray, List.set_cons_zero, List.set_cons_succ]
                  refine wpAnyH_take (i := 3) (oi := ⟨some 88, _, _, _, _, _⟩) (v := ?_) rfl (by kernel_rfl) (by kernel_rfl) (by kernel_rfl) (fun _ _ _ h => h) (Or.inl ⟨by rfl, ?_⟩) (by assumption) ?_
                  rotate_left
                  · (intro wq hSw; (try dsimp only at hSw); go_simp; try with_reducible rfl)
                  try simp only [Act.put, List.setIfInBounds_toArray, List.set_cons_zero, List.set_cons_succ]
                  refine wpAnyH_take (i := 4) (oi := ⟨some 89, _, _, _, _, _⟩) (v := ?_) rfl (by kernel_rfl) (by kernel_rfl) (by kernel_rfl) (fun _ _ _ h => h) (Or.inl ⟨by rfl, ?_⟩) (by assumption) ?_
                  rotate_left
                  · (intro wq hSw; (try dsimp only at hSw); have d := hSw.2.2.1; go_simp; try with_reducible rfl)
                  try simp only [Act.put, List.setIfInBounds_toArray, List.set_cons_zero, List.set_cons_succ]
                  refine wpAnyH_take (i := 5) (oi := ⟨some 90, _, _, _, _, _⟩) (v := ?_) rfl (by kernel_rfl) (by kernel_rfl) (by kernel_rfl) (fun _ _ _ h => h) (Or.inl ⟨by rfl, ?_⟩) (by assumption) ?_
                  rotate_left
                  · (intro wq hSw; (try dsimp only at hSw); go_simp; try with_reducible rfl)
                  try simp only [Act.put, List.setIfInBounds_toArray, List.set_cons_zero, List.set_cons_succ]
                  refine wpAnyH_ready (rs := [6]) (by kernel_rfl) (by simp) ?_
                  refine AllReadyH.cons (o := ⟨some 91, _, _, _, _, _⟩) rfl (fun K hK => ?_) AllReadyH.nil
                  go_simp
                  refine (DM _).mono ?_; rintro e z6 ⟨rfl, y6⟩
                  refine hK.out _ _ (⟨hHeld.1.keep y6, hHeld.2.1.keep y6, (y6.cell hHeld.2.2.2 (fun h => h)).trans hHeld.2.2.1, Nat.lt_of_lt_of_le hHeld.2.2.2 y6.size⟩) (fun hHeld => ?_)
                  clear hK K
                  try simp only [Act.put, List.setIfInBounds_toArray, List.set_cons_zero, List.set_cons_succ]
                  refine wpAnyH_ready (rs := [7]) (by kernel_rfl) (by simp) ?_
                  refine AllReadyH.cons (o := ⟨some 92, _, _, _, _, _⟩) rfl (fun K hK => ?_) AllReadyH.nil
                  go_simp
                  refine (hBL _ hHeld.1).mono ?_; rintro e z7 ⟨rfl, rfl⟩
                  refine hK.out _ _ hHeld (fun hHeld => ?_)
                  clear hK K
                  try simp only [Act.put, List.setIfInBounds_toArray, List.set_cons_zero, List.set_cons_succ]
                  refine wpAnyH_take (i := 8) (oi := ⟨some 15, _, _, _, _, _⟩) (v := ?_) rfl (by kernel_rfl) (by kernel_rfl) (by kernel_rfl) (fun _ _ _ h => h) (Or.inl ⟨by rfl, ?_⟩) (by assumption) ?_
                  rotate_left
                  · (intro wq hSw; (try dsimp only at hSw); go_simp; try with_reducible rfl)
                  try simp only [Act.put, List.setIfInBounds_toArray, List.set_cons_zero, List.set_cons_succ]
                  refine wpAnyH_done (by kernel_rfl) ?_ _
                  obtain ⟨g7, sA7, hc7, hg7⟩ := hHeld
                  clear gd sAd hca hga y6
                  go_wp2_with fail
                  rcases (by omega : jj = 0 ∨ 0 < jj) with rfl | hjp
                  · have gd := g7.drew
                    have sAd : StrsO z6.drew (some ⟨ga, 0, none⟩) l := fun i y hy => sA7 i y hy
                    refine wp_region_held_drew (S := (fun w' => Sg w w' B (n + 2) t ∧ StrsO w' (some ⟨ga, 0, none⟩) l)) (by kernel_rfl) ?_ (fun hHeld => ?_)
                    · exact ⟨gd, sAd⟩
                    refine wpAnyH_take (i := 0) (oi := ⟨some 93, _, _, _, _, _⟩) (v := ?_) rfl (by kernel_rfl) (by kernel_rfl) (by kernel_rfl) (fun _ _ _ h => h) (Or.inl ⟨by rfl, ?_⟩) (by assumption) ?_
                    rotate_left
                    · (intro wq hSw; (try dsimp only at hSw); go_simp; try with_reducible rfl)
                    try simp only [Act.put, List.setIfInBounds_toArray, List.set_cons_zero, List.set_cons_succ]
                    refine wpAnyH_take (i := 1) (oi := ⟨some 94, _, _, _, _, _⟩) (v := ?_) rfl (by kernel_rfl) (by kernel_rfl) (by kernel_rfl) (fun _ _ _ h => h) (Or.inl ⟨by rfl, ?_⟩) (by assumption) ?_
                    rotate_left
                    · (intro wq hSw; (try dsimp only at hSw); go_simp; try with_reducible rfl)
                    try simp only [Act.put, List.setIfInBounds_toArray, List.set_cons_zero, List.set_cons_succ]
                    refine wpAnyH_take (i := 2) (oi := ⟨some 95, _, _, _, _, _⟩) (v := ?_) rfl (by kernel_rfl) (by kernel_rfl) (by kernel_rfl) (fun _ _ _ h => h) (Or.inl ⟨by rfl, ?_⟩) (by assumption) ?_
                    rotate_left
                    · (intro wq hSw; (try dsimp only at hSw); go_simp; try with_reducible rfl)
                    try simp only [Act.put, List.setIfInBounds_toArray, List.set_cons_zero, List.set_cons_succ]
                    refine wpAnyH_take (i := 3) (oi := ⟨some 96, _, _, _, _, _⟩) (v := ?_) rfl (by kernel_rfl) (by kernel_rfl) (by kernel_rfl) (fun _ _ _ h => h) (Or.inl ⟨by rfl, ?_⟩) (by assumption) ?_
                    rotate_left
                    · (intro wq hSw; (try dsimp only at hSw); go_simp; try with_reducible rfl)
                    try simp only [Act.put, List.setIfInBounds_toArray, List.set_cons_zero, List.set_cons_succ]
                    refine wpAnyH_take (i := 4) (oi := ⟨some 97, _, _, _, _, _⟩) (v := ?_) rfl (by kernel_rfl) (by kernel_rfl) (by kernel_rfl) (fun _ _ _ h => h) (Or.inl ⟨by rfl, ?_⟩) (by assumption) ?_
                    rotate_left
                    · (intro wq hSw; (try dsimp only at hSw); go_simp; try with_reducible rfl)
                    try simp only [Act.put, List.setIfInBounds_toArray, List.set_cons_zero, List.set_cons_succ]
                    refine wpAnyH_take (i := 5) (oi := ⟨some 98, _, _, _, _, _⟩) (v := ?_) rfl (by kernel_rfl) (by kernel_rfl) (by kernel_rfl) (fun _ _ _ h => h) (Or.inl ⟨by rfl, ?_⟩) (by assumption) ?_
                    rotate_left
                    · (intro wq hSw; (try dsimp only at hSw); go_simp; try with_reducible rfl)
                    try simp only [Act.put, List.setIfInBounds_toArray, List.set_cons_zero, List.set_cons_succ]
                    refine wpAnyH_take (i := 8) (oi := ⟨some 101, _, _, _, _, _⟩) (v := ?_) rfl (by kernel_rfl) (by kernel_rfl) (by kernel_rfl) (fun _ _ _ h => h) (Or.inl ⟨by rfl, ?_⟩) (by assumption) ?_
                    rotate_left
                    · (intro wq hSw; (try dsimp only at hSw); go_simp; try with_reducible rfl)
                    try simp only [Act.put, List.setIfInBounds_toArray, List.set_cons_zero, List.set_cons_succ]
                    refine wpAnyH_ready (rs := [6]) (by kernel_rfl) (by simp) ?_
                    refine AllReadyH.cons (o := ⟨some 99, _, _, _, _, _⟩) rfl (fun K hK => ?_) AllReadyH.nil
                    go_simp
                    refine (DM _).mono ?_; rintro e z8 ⟨rfl, y8⟩
                    refine hK.out _ _ (⟨hHeld.1.keep y8, hHeld.2.keep y8⟩) (fun hHeld => ?_)
                    clear hK K
                    try simp only [Act.put, List.setIfInBounds_toArray, List.set_cons_zero, List.set_cons_succ]
                    refine wpAnyH_ready (rs := [7]) (by kernel_rfl) (by simp) ?_
                    refine AllReadyH.cons (o := ⟨some 100, _, _, _, _, _⟩) rfl (fun K hK => ?_) AllReadyH.nil
                    go_simp
                    refine (hSU _ hHeld.1).mono ?_; rintro e z9 ⟨rfl, rfl⟩
                    refine hK.out _ _ hHeld (fun hHeld => ?_)
                    clear hK K
                    try simp only [Act.put, List.setIfInBounds_toArray, List.set_cons_zero, List.set_cons_succ]
                    refine wpAnyH_take (i := 9) (oi := ⟨some 102, _, _, _, _, _⟩) (v := ?_) rfl (by kernel_rfl) (by kernel_rfl) (by kernel_rfl) (fun _ _ _ h => h) (Or.inl ⟨by rfl, ?_⟩) (by assumption) ?_
                    rotate_left
                    · (intro wq hSw; (try dsimp only at hSw); go_simp; try with_reducible rfl)
                    try simp only [Act.put, List.setIfInBounds_toArray, List.set_cons_zero, List.set_cons_succ]
                    refine wpAnyH_take (i := 10) (oi := ⟨some 103, _, _, _, _, _⟩) (v := ?_) rfl (by kernel_rfl) (by kernel_rfl) (by kernel_rfl) (fun _ _ _ h => h) (Or.inl ⟨by rfl, ?_⟩) (by assumption) ?_
                    rotate_left
                    · (intro wq hSw; (try dsimp only at hSw); go_simp; try with_reducible rfl)
                    try simp only [Act.put, List.setIfInBounds_toArray, List.set_cons_zero, List.set_cons_succ]
                    refine wpAnyH_take (i := 11) (oi := ⟨some 104, _, _, _, _, _⟩) (v := ?_) rfl (by kernel_rfl) (by kernel_rfl) (by kernel_rfl) (fun _ _ _ h => h) (Or.inl ⟨by rfl, ?_⟩) (by assumption) ?_
                    rotate_left
                    · (intro wq hSw; (try dsimp only at hSw); go_simp; try with_reducible rfl)
                    try simp only [Act.put, List.setIfInBounds_toArray, List.set_cons_zero, List.set_cons_succ]
                    refine wpAnyH_take (i := 12) (oi := ⟨some 105, _, _, _, _, _⟩) (v := ?_) rfl (by kernel_rfl) (by kernel_rfl) (by kernel_rfl) (fun _ _ _ h => h) (Or.inl ⟨by rfl, ?_⟩) (by assumption) ?_
                    rotate_left
                    · (intro wq hSw; (try dsimp only at hSw); go_simp; try with_reducible rfl)
                    try simp only [Act.put, List.setIfInBounds_toArray, List.set_cons_zero, List.set_cons_succ]
                    refine wpAnyH_take (i := 13) (oi := ⟨some 106, _, _, _, _, _⟩) (v := ?_) rfl (by kernel_rfl) (by kernel_rfl) (by kernel_rfl) (fun _ _ _ h => h) (Or.inl ⟨by rfl, ?_⟩) (by assumption) ?_
                    rotate_left
                    · (intro wq hSw; (try dsimp only at hSw); go_simp; try with_reducible rfl)
                    try simp only [Act.put, List.setIfInBounds_toArray, List.set_cons_zero, List.set_cons_succ]
                    refine wpAnyH_take (i := 14) (oi := ⟨some 107, _, _, _, _, _⟩) (v := ?_) rfl (by kernel_rfl) (by kernel_rfl) (by kernel_rfl) (fun _ _ _ h => h) (Or.inl ⟨by rfl, ?_⟩) (by assumption) ?_
                    rotate_left
                    · (intro wq hSw; (try dsimp only at hSw); go_simp; try with_reducible rfl)
                    try simp only [Act.put, List.setIfInBounds_toArray, List.set_cons_zero, List.set_cons_succ]
                    refine wpAnyH_take (i := 15) (oi := ⟨some 108, _, _, _, _, _⟩) (v := ?_) rfl (by kernel_rfl) (by kernel_rfl) (by kernel_rfl) (fun _ _ _ h => h) (Or.inl ⟨by rfl, ?_⟩) (by assumption) ?_
                    rotate_left
                    · (intro wq hSw; (try dsimp only at hSw); go_simp; try with_reducible rfl)
                    try simp only [Act.put, List.setIfInBounds_toArray, List.set_cons_zero, List.set_cons_succ]
                    refine wpAnyH_take (i := 16) (oi := ⟨some 109, _, _, _, _, _⟩) (v := undef) rfl (by kernel_rfl) (by kernel_rfl) (by kernel_rfl) (fun _ _ _ h => h) (Or.inr ⟨by rfl, rfl⟩) (by assumption) ?_
                    try simp only [Act.put, List.setIfInBounds_toArray, List.set_cons_zero, List.set_cons_succ]
                    refine wpAnyH_take (i := 17) (oi := ⟨some 110, _, _, _, _, _⟩) (v := undef) rfl (by kernel_rfl) (by kernel_rfl) (by kernel_rfl) (fun _ _ _ h => h) (Or.inr ⟨by rfl, rfl⟩) (by assumption) ?_
                    try simp only [Act.put, List.setIfInBounds_toArray, List.set_cons_zero, List.set_cons_succ]
                    refine wpAnyH_take (i := 18) (oi := ⟨some 111, _, _, _, _, _⟩) (v := undef) rfl (by kernel_rfl) (by kernel_rfl) (by kernel_rfl) (fun _ _ _ h => h) (Or.inr ⟨by rfl, rfl⟩) (by assumption) ?_
                    try simp only [Act.put, List.setIfInBounds_toArray, List.set_cons_zero, List.set_cons_succ]
                    refine wpAnyH_take (i := 19) (oi := ⟨some 112, _, _, _, _, _⟩) (v := undef) rfl (by kernel_rfl) (by kernel_rfl) (by kernel_rfl) (fun _ _ _ h => h) (Or.inr ⟨by rfl, rfl⟩) (by assumption) ?_
                    try simp only [Act.put, List.setIfInBounds_toArray, List.set_cons_zero, List.set_cons_succ]
                    refine wpAnyH_take (i := 20) (oi := ⟨some 113, _, _, _, _, _⟩) (v := undef) rfl (by kernel_rfl) (by kernel_rfl) (by kernel_rfl) (fun _ _ _ h => h) (Or.inr ⟨by rfl, rfl⟩) (by assumption) ?_
                    try simp only [Act.put, List.setIfInBounds_toArray, List.set_cons_zero, List.set_cons_succ]
                    refine wpAnyH_take (i := 21) (oi := ⟨some 114, _, _, _, _, _⟩) (v := undef) rfl (by kernel_rfl) (by kernel_rfl) (by kernel_rfl) (fun _ _ _ h => h) (Or.inr ⟨by rfl, rfl⟩) (by assumption) ?_
                    try simp only [Act.put, List.setIfInBounds_toArray, List.set_cons_zero, List.set_cons_succ]
                    refine wpAnyH_take (i := 22) (oi := ⟨some 115, _, _, _, _, _⟩) (v := undef) rfl (by kernel_rfl) (by kernel_rfl) (by kernel_rfl) (fun _ _ _ h => h) (Or.inr ⟨by rfl, rfl⟩) (by assumption) ?_
                    try simp only [Act.put, List.setIfInBounds_toArray, List.set_cons_zero, List.set_cons_succ]
                    refine wpAnyH_take (i := 23) (oi := ⟨some 116, _, _, _, _, _⟩) (v := undef) rfl (by kernel_rfl) (by kernel_rfl) (by kernel_rfl) (fun _ _ _ h => h) (Or.inr ⟨by rfl, rfl⟩) (by assumption) ?_
                    try simp only [Act.put, List.setIfInBounds_toArray, List.set_cons_zero, List.set_cons_succ]
                    refine wpAnyH_take (i := 24) (oi := ⟨some 117, _, _, _, _, _⟩) (v := undef) rfl (by kernel_rfl) (by kernel_rfl) (by kernel_rfl) (fun _ _ _ h => h) (Or.inr ⟨by rfl, rfl⟩) (by assumption) ?_
                    try simp only [Act.put, List.setIfInBounds_toArray, List.set_cons_zero, List.set_cons_succ]
                    refine wpAnyH_take (i := 25) (oi := ⟨some 118, _, _, _, _, _⟩) (v := undef) rfl (by kernel_rfl) (by kernel_rfl) (by kernel_rfl) (fun _ _ _ h => h) (Or.inr ⟨by rfl, rfl⟩) (by assumption) ?_
                    try simp only [Act.put, List.setIfInBounds_toArray, List.set_cons_zero, List.set_cons_succ]
                    refine wpAnyH_take (i := 26) (oi := ⟨some 119, _, _, _, _, _⟩) (v := ?_) rfl (by kernel_rfl) (by kernel_rfl) (by kernel_rfl) (fun _ _ _ h => h) (Or.inl ⟨by rfl, ?_⟩) (by assumption) ?_
                    rotate_left
                    · (intro wq hSw; (try dsimp only at hSw); go_simp; try with_reducible rfl)
                    try simp only [Act.put, List.setIfInBounds_toArray, List.set_cons_zero, List.set_cons_succ]
                    refine wpAnyH_take (i := 27) (oi := ⟨some 120, _, _, _, _, _⟩) (v := ?_) rfl (by kernel_rfl) (by kernel_rfl) (by kernel_rfl) (fun _ _ _ h => h) (Or.inl ⟨by rfl, ?_⟩) (by assumption) ?_
                    rotate_left
                    · (intro wq hSw; (try dsimp only at hSw); go_simp; try with_reducible rfl)
                    try simp only [Act.put, List.setIfInBounds_toArray, List.set_cons_zero, List.set_cons_succ]
                    refine wpAnyH_done (by kernel_rfl) ?_ _
                    obtain ⟨g9, sA9⟩ := hHeld
                    clear gd sAd g7 sA7 hc7 hg7 y8
                    go_wp2_with fail
                    go_roundw
                    case rel => exact ⟨0 + 1, by omega, by go_num, by rw [hid.out, Int.natCast_add], g9, sA9⟩
                    case measure => simp [intOf]; omega
                  · obtain ⟨b, hb1, hb2⟩ := hpr hjp
                    obtain ⟨gb, hgb, -, hcb⟩ := sA7 _ _ hb1
                    cases hgb
                    have e5 : decide ((0 : Int) < (jj : Int)) = true := by simp; omega
                    have gd := g7.drew
                    have sAd : StrsO z6.drew (some ⟨ga, 0, none⟩) l := fun i y hy => sA7 i y hy
                    have hl0 : l[jj - 1]? = some b := hb1
                    clear hb1
                    have e6 : (jj : Int) - 1 = ((jj - 1 : Nat) : Int) := by omega
                    have e7 : jj - 1 < ln := by omega
                    generalize jj - 1 = jq at *
                    have e8 : IntKind.i64.wrap (jq : Int) = (jq : Int) := IntWalk.i64_in _ ⟨by omega, by omega⟩
                    have eB : Op.bytesLess b a = true := by rw [bytesLess_eq]; exact decide_eq_true hb2
                    have eA : Op.bytesLess (⟨b.toArray⟩ : ByteArray).toList (⟨a.toArray⟩ : ByteArray).toList = true := by rw [Lib.toList_data, Lib.toList_data]; exact eB
                    have e9 : (0 : Int) ≤ (jq : Int) ∧ (jq : Int) < (ln : Int) := ⟨by omega, by omega⟩
                    refine wp_region_held_drew (S := (fun w' => Sg w w' B (n + 2) t ∧ StrsO w' (some ⟨ga, 0, none⟩) l ∧ (w'.cell? ⟨ga, jj, none⟩ = some (.string ⟨a.toArray⟩) ∧ w'.cell? ⟨ga, jq, none⟩ = some (.string ⟨b.toArray⟩)) ∧ ga < w'.heap.size)) (by kernel_rfl) ?_ (fun hHeld => ?_)
                    · exact ⟨gd, sAd, ⟨hc7, hcb⟩, hg7⟩
                    refine wpAnyH_take (i := 0) (oi := ⟨some 93, _, _, _, _, _⟩) (v := ?_) rfl (by kernel_rfl) (by kernel_rfl) (by kernel_rfl) (fun _ _ _ h => h) (Or.inl ⟨by rfl, ?_⟩) (by assumption) ?_
                    rotate_left
                    · (intro wq hSw; (try dsimp only at hSw); go_simp; try with_reducible rfl)
                    try simp only [Act.put, List.setIfInBounds_toArray, List.set_cons_zero, List.set_cons_succ]
                    refine wpAnyH_take (i := 1) (oi := ⟨some 94, _, _, _, _, _⟩) (v := ?_) rfl (by kernel_rfl) (by kernel_rfl) (by kernel_rfl) (fun _ _ _ h => h) (Or.inl ⟨by rfl, ?_⟩) (by assumption) ?_
                    rotate_left
                    · (intro wq hSw; (try dsimp only at hSw); go_simp; try with_reducible rfl)
                    try simp only [Act.put, List.setIfInBounds_toArray, List.set_cons_zero, List.set_cons_succ]
                    refine wpAnyH_take (i := 2) (oi := ⟨some 95, _, _, _, _, _⟩) (v := ?_) rfl (by kernel_rfl) (by kernel_rfl) (by kernel_rfl) (fun _ _ _ h => h) (Or.inl ⟨by rfl, ?_⟩) (by assumption) ?_
                    rotate_left
                    · (intro wq hSw; (try dsimp only at hSw); go_simp; try with_reducible rfl)
                    try simp only [Act.put, List.setIfInBounds_toArray, List.set_cons_zero, List.set_cons_succ]
                    refine wpAnyH_take (i := 3) (oi := ⟨some 96, _, _, _, _, _⟩) (v := ?_) rfl (by kernel_rfl) (by kernel_rfl) (by kernel_rfl) (fun _ _ _ h => h) (Or.inl ⟨by rfl, ?_⟩) (by assumption) ?_
                    rotate_left
                    · (intro wq hSw; (try dsimp only at hSw); go_simp; try with_reducible rfl)
                    try simp only [Act.put, List.setIfInBounds_toArray, List.set_cons_zero, List.set_cons_succ]
                    refine wpAnyH_take (i := 4) (oi := ⟨some 97, _, _, _, _, _⟩) (v := ?_) rfl (by kernel_rfl) (by kernel_rfl) (by kernel_rfl) (fun _ _ _ h => h) (Or.inl ⟨by rfl, ?_⟩) (by assumption) ?_
                    rotate_left
                    · (intro wq hSw; (try dsimp only at hSw); go_simp; try with_reducible rfl)
                    try simp only [Act.put, List.setIfInBounds_toArray, List.set_cons_zero, List.set_cons_succ]
                    refine wpAnyH_take (i := 5) (oi := ⟨some 98, _, _, _, _, _⟩) (v := ?_) rfl (by kernel_rfl) (by kernel_rfl) (by kernel_rfl) (fun _ _ _ h => h) (Or.inl ⟨by rfl, ?_⟩) (by assumption) ?_
                    rotate_left
                    · (intro wq hSw; (try dsimp only at hSw); go_simp; try with_reducible rfl)
                    try simp only [Act.put, List.setIfInBounds_toArray, List.set_cons_zero, List.set_cons_succ]
                    refine wpAnyH_take (i := 8) (oi := ⟨some 101, _, _, _, _, _⟩) (v := ?_) rfl (by kernel_rfl) (by kernel_rfl) (by kernel_rfl) (fun _ _ _ h => h) (Or.inl ⟨by rfl, ?_⟩) (by assumption) ?_
                    rotate_left
                    · (intro wq hSw; (try dsimp only at hSw); go_simp; try with_reducible rfl)
                    try simp only [Act.put, List.setIfInBounds_toArray, List.set_cons_zero, List.set_cons_succ]
                    refine wpAnyH_ready (rs := [6]) (by kernel_rfl) (by simp) ?_
                    refine AllReadyH.cons (o := ⟨some 99, _, _, _, _, _⟩) rfl (fun K hK => ?_) AllReadyH.nil
                    go_simp
                    refine (DM _).mono ?_; rintro e z8 ⟨rfl, y8⟩
                    refine hK.out _ _ (⟨hHeld.1.keep y8, hHeld.2.1.keep y8, ⟨(y8.cell hHeld.2.2.2 (fun h => h)).trans hHeld.2.2.1.1, (y8.cell hHeld.2.2.2 (fun h => h)).trans hHeld.2.2.1.2⟩, Nat.lt_of_lt_of_le hHeld.2.2.2 y8.size⟩) (fun hHeld => ?_)
                    clear hK K
                    try simp only [Act.put, List.setIfInBounds_toArray, List.set_cons_zero, List.set_cons_succ]
                    refine wpAnyH_ready (rs := [7]) (by kernel_rfl) (by simp) ?_
                    refine AllReadyH.cons (o := ⟨some 100, _, _, _, _, _⟩) rfl (fun K hK => ?_) AllReadyH.nil
                    go_simp
                    refine (hSU _ hHeld.1).mono ?_; rintro e z9 ⟨rfl, rfl⟩
                    refine hK.out _ _ hHeld (fun hHeld => ?_)
                    clear hK K
                    try simp only [Act.put, List.setIfInBounds_toArray, List.set_cons_zero, List.set_cons_succ]
                    refine wpAnyH_take (i := 9) (oi := ⟨some 102, _, _, _, _, _⟩) (v := ?_) rfl (by kernel_rfl) (by kernel_rfl) (by kernel_rfl) (fun _ _ _ h => h) (Or.inl ⟨by rfl, ?_⟩) (by assumption) ?_
                    rotate_left
                    · (intro wq hSw; (try dsimp only at hSw); go_simp; try with_reducible rfl)
                    try simp only [Act.put, List.setIfInBounds_toArray, List.set_cons_zero, List.set_cons_succ]
                    refine wpAnyH_take (i := 10) (oi := ⟨some 103, _, _, _, _, _⟩) (v := ?_) rfl (by kernel_rfl) (by kernel_rfl) (by kernel_rfl) (fun _ _ _ h => h) (Or.inl ⟨by rfl, ?_⟩) (by assumption) ?_
                    rotate_left
                    · (intro wq hSw; (try dsimp only at hSw); go_simp; try with_reducible rfl)
                    try simp only [Act.put, List.setIfInBounds_toArray, List.set_cons_zero, List.set_cons_succ]
                    refine wpAnyH_take (i := 11) (oi := ⟨some 104, _, _, _, _, _⟩) (v := ?_) rfl (by kernel_rfl) (by kernel_rfl) (by kernel_rfl) (fun _ _ _ h => h) (Or.inl ⟨by rfl, ?_⟩) (by assumption) ?_
                    rotate_left
                    · (intro wq hSw; (try dsimp only at hSw); go_simp; try with_reducible rfl)
                    try simp only [Act.put, List.setIfInBounds_toArray, List.set_cons_zero, List.set_cons_succ]
                    refine wpAnyH_take (i := 12) (oi := ⟨some 105, _, _, _, _, _⟩) (v := ?_) rfl (by kernel_rfl) (by kernel_rfl) (by kernel_rfl) (fun _ _ _ h => h) (Or.inl ⟨by rfl, ?_⟩) (by assumption) ?_
                    rotate_left
                    · (intro wq hSw; (try dsimp only at hSw); go_simp; try with_reducible rfl)
                    try simp only [Act.put, List.setIfInBounds_toArray, List.set_cons_zero, List.set_cons_succ]
                    refine wpAnyH_take (i := 13) (oi := ⟨some 106, _, _, _, _, _⟩) (v := ?_) rfl (by kernel_rfl) (by kernel_rfl) (by kernel_rfl) (fun _ _ _ h => h) (Or.inl ⟨by rfl, ?_⟩) (by assumption) ?_
                    rotate_left
                    · (intro wq hSw; (try dsimp only at hSw); go_simp; try with_reducible rfl)
                    try simp only [Act.put, List.setIfInBounds_toArray, List.set_cons_zero, List.set_cons_succ]
                    refine wpAnyH_take (i := 14) (oi := ⟨some 107, _, _, _, _, _⟩) (v := ?_) rfl (by kernel_rfl) (by kernel_rfl) (by kernel_rfl) (fun _ _ _ h => h) (Or.inl ⟨by rfl, ?_⟩) (by assumption) ?_
                    rotate_left
                    · (intro wq hSw; (try dsimp only at hSw); go_simp; try with_reducible rfl)
                    try simp only [Act.put, List.setIfInBounds_toArray, List.set_cons_zero, List.set_cons_succ]
                    refine wpAnyH_take (i := 15) (oi := ⟨some 108, _, _, _, _, _⟩) (v := ?_) rfl (by kernel_rfl) (by kernel_rfl) (by kernel_rfl) (fun _ _ _ h => h) (Or.inl ⟨by rfl, ?_⟩) (by assumption) ?_
                    rotate_left
                    · (intro wq hSw; (try dsimp only at hSw); go_simp; try with_reducible rfl)
                    try simp only [Act.put, List.setIfInBounds_toArray, List.set_cons_zero, List.set_cons_succ]
                    refine wpAnyH_take (i := 16) (oi := ⟨some 109, _, _, _, _, _⟩) (v := ?_) rfl (by kernel_rfl) (by kernel_rfl) (by kernel_rfl) (fun _ _ _ h => h) (Or.inl ⟨by rfl, ?_⟩) (by assumption) ?_
                    rotate_left
                    · (intro wq hSw; (try dsimp only at hSw); go_simp; try with_reducible rfl)
                    try simp only [Act.put, List.setIfInBounds_toArray, List.set_cons_zero, List.set_cons_succ]
                    refine wpAnyH_take (i := 17) (oi := ⟨some 110, _, _, _, _, _⟩) (v := ?_) rfl (by kernel_rfl) (by kernel_rfl) (by kernel_rfl) (fun _ _ _ h => h) (Or.inl ⟨by rfl, ?_⟩) (by assumption) ?_
                    rotate_left
                    · (intro wq hSw; (try dsimp only at hSw); go_simp; try with_reducible rfl)
                    try simp only [Act.put, List.setIfInBounds_toArray, List.set_cons_zero, List.set_cons_succ]
                    refine wpAnyH_take (i := 18) (oi := ⟨some 111, _, _, _, _, _⟩) (v := ?_) rfl (by kernel_rfl) (by kernel_rfl) (by kernel_rfl) (fun _ _ _ h => h) (Or.inl ⟨by rfl, ?_⟩) (by assumption) ?_
                    rotate_left
                    · (intro wq hSw; (try dsimp only at hSw); go_simp; try with_reducible rfl)
                    try simp only [Act.put, List.setIfInBounds_toArray, List.set_cons_zero, List.set_cons_succ]
                    refine wpAnyH_take (i := 19) (oi := ⟨some 112, _, _, _, _, _⟩) (v := ?_) rfl (by kernel_rfl) (by kernel_rfl) (by kernel_rfl) (fun _ _ _ h => h) (Or.inl ⟨by rfl, ?_⟩) (by assumption) ?_
                    rotate_left
                    · (intro wq hSw; (try dsimp only at hSw); go_simp; try with_reducible rfl)
                    try simp only [Act.put, List.setIfInBounds_toArray, List.set_cons_zero, List.set_cons_succ]
                    refine wpAnyH_take (i := 20) (oi := ⟨some 113, _, _, _, _, _⟩) (v := ?_) rfl (by kernel_rfl) (by kernel_rfl) (by kernel_rfl) (fun _ _ _ h => h) (Or.inl ⟨by rfl, ?_⟩) (by assumption) ?_
                    rotate_left
                    · (intro wq hSw; (try dsimp only at hSw); have d := hSw.2.2.1; go_simp; try with_reducible rfl)
                    try simp only [Act.put, List.setIfInBounds_toArray, List.set_cons_zero, List.set_cons_succ]
                    refine wpAnyH_take (i := 21) (oi := ⟨some 114, _, _, _, _, _⟩) (v := ?_) rfl (by kernel_rfl) (by kernel_rfl) (by kernel_rfl) (fun _ _ _ h => h) (Or.inl ⟨by rfl, ?_⟩) (by assumption) ?_
                    rotate_left
                    · (intro wq hSw; (try dsimp only at hSw); go_simp; try with_reducible rfl)
                    try simp only [Act.put, List.setIfInBounds_toArray, List.set_cons_zero, List.set_cons_succ]
                    refine wpAnyH_take (i := 22) (oi := ⟨some 115, _, _, _, _, _⟩) (v := ?_) rfl (by kernel_rfl) (by kernel_rfl) (by kernel_rfl) (fun _ _ _ h => h) (Or.inl ⟨by rfl, ?_⟩) (by assumption) ?_
                    rotate_left
                    · (intro wq hSw; (try dsimp only at hSw); go_simp; try with_reducible rfl)
                    try simp only [Act.put, List.setIfInBounds_toArray, List.set_cons_zero, List.set_cons_succ]
                    refine wpAnyH_take (i := 23) (oi := ⟨some 116, _, _, _, _, _⟩) (v := ?_) rfl (by kernel_rfl) (by kernel_rfl) (by kernel_rfl) (fun _ _ _ h => h) (Or.inl ⟨by rfl, ?_⟩) (by assumption) ?_
                    rotate_left
                    · (intro wq hSw; (try dsimp only at hSw); go_simp; try with_reducible rfl)
                    try simp only [Act.put, List.setIfInBounds_toArray, List.set_cons_zero, List.set_cons_succ]
                    refine wpAnyH_take (i := 24) (oi := ⟨some 117, _, _, _, _, _⟩) (v := ?_) rfl (by kernel_rfl) (by kernel_rfl) (by kernel_rfl) (fun _ _ _ h => h) (Or.inl ⟨by rfl, ?_⟩) (by assumption) ?_
                    rotate_left
                    · (intro wq hSw; (try dsimp only at hSw); have d := hSw.2.2.1; go_simp; try with_reducible rfl)
                    try simp only [Act.put, List.setIfInBounds_toArray, List.set_cons_zero, List.set_cons_succ]
                    refine wpAnyH_take (i := 25) (oi := ⟨some 118, _, _, _, _, _⟩) (v := ?_) rfl (by kernel_rfl) (by kernel_rfl) (by kernel_rfl) (fun _ _ _ h => h) (Or.inl ⟨by rfl, ?_⟩) (by assumption) ?_
                    rotate_left
                    · (intro wq hSw; (try dsimp only at hSw); go_simp; try with_reducible rfl)
                    try simp only [Act.put, List.setIfInBounds_toArray, List.set_cons_zero, List.set_cons_succ]
                    refine wpAnyH_take (i := 26) (oi := ⟨some 119, _, _, _, _, _⟩) (v := ?_) rfl (by kernel_rfl) (by kernel_rfl) (by kernel_rfl) (fun _ _ _ h => h) (Or.inl ⟨by rfl, ?_⟩) (by assumption) ?_
                    rotate_left
                    · (intro wq hSw; (try dsimp only at hSw); go_simp; try with_reducible rfl)
                    try simp only [Act.put, List.setIfInBounds_toArray, List.set_cons_zero, List.set_cons_succ]
                    refine wpAnyH_take (i := 27) (oi := ⟨some 120, _, _, _, _, _⟩) (v := ?_) rfl (by kernel_rfl) (by kernel_rfl) (by kernel_rfl) (fun _ _ _ h => h) (Or.inl ⟨by rfl, ?_⟩) (by assumption) ?_
                    rotate_left
                    · (intro wq hSw; (try dsimp only at hSw); go_simp; try with_reducible rfl)
                    try simp only [Act.put, List.setIfInBounds_toArray, List.set_cons_zero, List.set_cons_succ]
                    refine wpAnyH_done (by kernel_rfl) ?_ _
                    obtain ⟨g9, sA9, -, -⟩ := hHeld
                    clear gd sAd g7 sA7 hc7 hg7 y8
                    go_wp2_with fail
                    go_roundw
                    case rel => exact ⟨jj + 1, by omega, by go_num, by rw [hid.out, Int.natCast_add], g9, sA9⟩
                    case measure => simp [intOf]; omega
                · obtain rfl : jj = ln := by omega
                  have hal := sumT_all (t.bal u) l hl2
                  rw [hT] at hal
                  rw [hal]
                  have hSU := fun z (g : Sg w z B (n + 2) t) => g.sup u hl1
                  go_wp2_with fail
                  refine (DM _).mono ?_
                  rintro e z1 ⟨rfl, y1⟩
                  have g1 := g.keep y1
                  clear g y1 sA
                  go_wp2_with fail
                  refine (hSU _ g1).mono ?_
                  rintro e z2 ⟨rfl, rfl⟩
                  go_wp2_with fail
                  go_roundw
                  case rel => exact ⟨m + 1, by omega, by go_num, g1⟩
                  case measure => simp [intOf]; omega
            · go_wp2_with fail
              go_roundw
              case rel => exact ⟨k + 1, n + 2, t, by omega, by omega, by omega, by go_num, s9, g⟩
              case measure => simp [intOf]; omega
      · go_wp2_with fail
        go_ret
        exact ⟨rfl, h7.new⟩
    · go_wp2_with fail
      go_ret
      exact ⟨rfl, h7.new⟩
end Go.Proofs.Ytcldbipipehedaa
