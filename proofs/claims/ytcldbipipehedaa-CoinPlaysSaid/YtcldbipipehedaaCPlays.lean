/-
  voussoirlaw19.CoinPlays: the walk.
-/
import Derived.Test.YtcldbipipehedaaRfE
import Derived.Test.YtcldbipipehedaaAwl
import Derived.Test.YtcldbipipehedaaPkN
import Derived.Test.YtcldbipipehedaaStp
import Derived.Test.YtcldbipipehedaaCOpen
import Derived.Deep.CutBlock
import Derived.Deep.DeepCutAuto
import Derived.Deep.RegionHeld3
import Derived.Deep.DrawnRows
import Derived.Deep.RegionWith
import Derived.LoopTactic
namespace Go.Proofs.Ytcldbipipehedaa
open Go.RowKit Go.ChangeMaps
/-- a coin of the call's own, turned: the banks and the act are as they were -/
theorem Rk.kc {w0 w w' : World} {b n : Nat} {s : BkS} (h : Rk w0 w b n s) (k : KC w w') (nw : New w0 w') : Rk w0 w' b n s := by
  obtain ⟨v, l, ⟨h1, h2, h3⟩, hr, hl, hs⟩ := h
  refine ⟨v, l, ⟨k _ _ _ _ h1, ⟨h2.1, ?_⟩, h3⟩, hr, hl, nw.size⟩
  rcases h2.2 with hn | ⟨g, cap, cur, rfl, hb, hgg, rest⟩
  · exact .inl hn
  · exact .inr ⟨g, cap, cur, rfl, hb, k _ _ _ _ hgg, rest⟩
theorem Sg.byRows {w0 wx W : World} {a b n m : Nat} {s t : BkS} (h : Sg w0 wx a n s) (r : Rk w0 wx b m t) (k : Keeps (fun k => k = b) wx W) : Sg w0 W a n s := by
  obtain ⟨ma, sa, h1, h2, h3, h4, h5⟩ := h
  obtain ⟨v, l, ⟨r1, r2, r3⟩, -⟩ := r
  refine ⟨ma, sa, h1.keepS k ?_ ?_ ?_, h2.then k (fun j hj => .inr (by rw [hj]; exact r3)), h3, h4, h5⟩
  · intro e
    have := h1.blk
    rw [show a = b from e, r1] at this
    simp at this
  · exact fun e => h1.mp.not_cells r1 e.symm
  · exact fun e => h1.su.not_cells r1 e.symm
theorem Sg.storedC {w wx : World} {B n : Nat} {s : BkS} {Q : Nat} {c : Co} (h : Sg w wx B n s) (p : cn wx Q c) (hQ : w.heap.size ≤ Q) {W : World} (k : Keeps (fun k => k = Q) wx W) : Sg w W B n s := by
  obtain ⟨ma, sa, h1, h2, h3, h4, h5⟩ := h
  refine ⟨ma, sa, h1.keepS k ?_ ?_ ?_, h2.then k (fun j hj => .inr (by rw [hj]; exact hQ)), h3, h4, h5⟩
  · intro e
    have := h1.blk
    rw [show B = Q from e, show wx.heap[Q]? = _ from p] at this
    cases this
  · exact fun e => h1.mp.not_cells p e.symm
  · exact fun e => h1.su.not_cells p e.symm
theorem Rk.storedC {w wx : World} {B n : Nat} {s : BkS} {Q : Nat} {c : Co} (h : Rk w wx B n s) (p : cn wx Q c) {W : World} (k : Keeps (fun k => k = Q) wx W) : Rk w W B n s := by
  have hne := h.ne p (by decide)
  obtain ⟨v, l, ⟨h1, h2, h3⟩, hr, hl, hs⟩ := h
  refine ⟨v, l, ⟨k.kept h1 (fun e => hne e.symm), ⟨h2.1, ?_⟩, h3⟩, hr, hl, Nat.le_trans hs k.size⟩
  rcases h2.2 with hn | ⟨g, cap, cur, rfl, hb, hgg, rest⟩
  · exact .inl hn
  · refine .inr ⟨g, cap, cur, rfl, hb, k.kept hgg ?_, rest⟩
    intro e
    rw [show g = Q from e, show wx.heap[Q]? = _ from p] at hgg
    simp at hgg
def aZ (w : World) (q : Nat) (x : A19) : Prop := w.heap[q]? = some (.cells #[.int .i64 x.what, .int .i64 x.side, .int .i64 x.fr, .int .i64 x.to, .int .i64 x.den, .int .i64 x.which, .int .u64 (x.n : Nat)] 39 (0, 0))
theorem aZ.keep {w w' : World} {q : Nat} {x : A19} (h : aZ w q x) (k : New w w') : aZ w' q x := k.kept h (fun h => h)
theorem aZ.storedC {wx W : World} {q Q : Nat} {x : A19} {c : Co} (h : aZ wx q x) (p : cn wx Q c) (k : Keeps (fun k => k = Q) wx W) : aZ W q x := by
  refine k.kept h ?_
  intro e
  have h2 : wx.heap[q]? = _ := h
  rw [show q = Q from e, show wx.heap[Q]? = _ from p] at h2
  simp at h2
theorem sgNewP {w0 w : World} (n0 : New w0 w) :
    Calls Try.prog 19 #[] w fun e w' => ∃ a, e = .returned (.pointer (some ⟨a, 0, none⟩)) ∧ Sg w0 w' a 0 emptyB := sgNew n0
theorem rkNew {w0 w : World} {a : Nat} {s : BkS} (h : Sg w0 w a 0 s) :
    Calls Try.prog 20 #[] w fun e w' => ∃ b, e = .returned (.pointer (some ⟨b, 0, none⟩)) ∧ Sg w0 w' a 0 s ∧ Rk w0 w' b 0 emptyB := by
  refine (rNewB h.new).mono ?_
  rintro e w' ⟨he, hr, hk⟩
  exact ⟨_, he, h.keep hk, _, [], hr, rel_empty, by simp, Nat.le_trans h.new.size hk.size⟩
theorem u63 : U64 9223372036854775808 := by show _ < _; decide
set_option maxHeartbeats 16000000 in
set_option maxRecDepth 100000 in
theorem cplays_walk (A : Option Addr) (len cap : Nat) (la : List A19) (C : Option Addr) (len2 cap2 : Nat) (lc : List Co) (ch pe : Nat) (w : World)
    (hla : la.length = len) (h63 : len ≤ 9223372036854775807) (hA : A19At w A la) (hlc : lc.length = len2) (h64 : len2 ≤ 9223372036854775807) (hC : CoAt w C lc) (uch : U64 ch) (upe : U64 pe) :
    Calls Try.prog 4 #[.slice A len cap, .slice C len2 cap2, .int .u64 (ch : Nat), .int .u64 (pe : Nat)] w fun e w' => e = .returned (.bool true) ∧ New w w' := by
  go_enter Try.func4, Try.ntmps4
  go_wp2_with fail
  refine (awake_any _).mono ?_
  rintro e w1 ⟨rfl, k1⟩
  go_wp2_with fail
  refine (sgNewP k1).mono ?_
  rintro e w2 ⟨a, rfl, h2⟩
  clear k1
  go_wp2_with fail
  refine (rkNew h2).mono ?_
  rintro e w3 ⟨b, rfl, h3, r3⟩
  clear h2
  go_wp2_with fail
  go_loopw [12] (fun i wr => ∃ (k n : Nat) (s : BkS), k ≤ 2 ∧ n ≤ 2 * k ∧ i = .int .i64 k ∧ Sg w wr a n s ∧ Rk w wr b n s) (fun i _ => 2 - (intOf i).toNat)
  case atStart => exact ⟨0, 0, emptyB, by omega, by omega, rfl, h3, r3⟩
  case round =>
    clear h3 r3
    obtain ⟨k, n, s, hk, hn, rfl, h, r⟩ := hrel
    have hk0 : (0 : Int) ≤ (k : Int) := Int.natCast_nonneg _
    by_cases hk2 : k < 2
    · have DM := fun w => denom_any (k : Int) ⟨by omega, by omega⟩ w
      generalize dnL (pk (k : Int) 7) = u at *
      have MA := fun z (g : Sg w z a n s) => g.act (fun ma sa hb => mint_any a ma sa n s xAnn u 9223372036854775808 u63 (by omega) z hb)
      have MB := fun z (g : Rk w z b n s) => rMintB xAnn u 9223372036854775808 (by omega) z g
      generalize mintE s xAnn u 9223372036854775808 = E at *
      generalize mintS s xAnn u 9223372036854775808 = s2 at *
      unfold xAnn at MA MB
      go_wp2_with fail
      refine (DM _).mono ?_
      rintro e z1 ⟨rfl, y1⟩
      have h1 := h.keep y1
      have r1 := r.keep y1
      clear h r y1
      go_wp2_with fail
      refine (MA _ h1).mono ?_
      rintro e z2 ⟨rfl, h2, k2⟩
      have r2 := r1.kc k2 h2.new
      clear h1 r1 k2
      go_wp2_with fail
      refine (DM _).mono ?_
      rintro e z3 ⟨rfl, y3⟩
      have h3 := h2.keep y3
      have r3 := r2.keep y3
      clear h2 r2 y3
      go_wp2_with fail
      refine (MB _ r3).mono ?_
      rintro e z4 ⟨rfl, r4, k4⟩
      have h4 := h3.byRows r3 k4
      clear h3 r3 k4
      go_wp2_with fail
      go_roundw
      case rel => exact ⟨k + 1, n + 2, s2, by omega, by omega, by go_num, h4, r4⟩
      case measure => simp [intOf]; omega
    · obtain rfl : k = 2 := by omega
      rw [show ((2 : Nat) : Int) = 2 from rfl]
      go_wp2_with fail
      go_loopw [13] (fun i wr => ∃ (k n : Nat) (s : BkS), k ≤ len ∧ k ≤ 40 ∧ n ≤ 4 + 2 * k ∧ i = .int .i64 k ∧ Sg w wr a n s ∧ Rk w wr b n s) (fun i _ => 40 - (intOf i).toNat)
      case atStart => exact ⟨0, n, s, by omega, by omega, by omega, rfl, h, r⟩
      case round =>
        clear h r hn hk hk2 hk0 n s
        obtain ⟨k, n, s, hk, hk40, hn, rfl, h, r⟩ := hrel
        have hk0 : (0 : Int) ≤ (k : Int) := Int.natCast_nonneg _
        by_cases hlt : k < len
        · by_cases hlt2 : k < 40
          · obtain ⟨bA, oA, rfl, hbA, ⟨i0, i1, i2, i3, i4, i5, i6⟩, c0, c1, c2, c3, c4, c5, c6⟩ := hA k la[k] (List.getElem?_eq_getElem (by omega))
            generalize la[k] = y at *
            have hk1 : (k : Int) < (len : Int) := by omega
            have nw := h.new
            have d0 := (nw.cell (p := ⟨bA, oA + k * 7, none⟩) hbA (fun h => h)).trans c0
            have d1 := (nw.cell (p := ⟨bA, oA + k * 7 + 1, none⟩) hbA (fun h => h)).trans c1
            have d2 := (nw.cell (p := ⟨bA, oA + k * 7 + 2, none⟩) hbA (fun h => h)).trans c2
            have d3 := (nw.cell (p := ⟨bA, oA + k * 7 + 3, none⟩) hbA (fun h => h)).trans c3
            have d4 := (nw.cell (p := ⟨bA, oA + k * 7 + 4, none⟩) hbA (fun h => h)).trans c4
            have d5 := (nw.cell (p := ⟨bA, oA + k * 7 + 5, none⟩) hbA (fun h => h)).trans c5
            have d6 := (nw.cell (p := ⟨bA, oA + k * 7 + 6, none⟩) hbA (fun h => h)).trans c6
            have k8 := (New.refl wr).alloc (.cells #[.int .i64 y.what, .int .i64 y.side, .int .i64 y.fr, .int .i64 y.to, .int .i64 y.den, .int .i64 y.which, .int .u64 (y.n : Nat)] 39)
            have y8 : aZ (wr.alloc (.cells #[.int .i64 y.what, .int .i64 y.side, .int .i64 y.fr, .int .i64 y.to, .int .i64 y.den, .int .i64 y.which, .int .u64 (y.n : Nat)] 39)) wr.heap.size y := heap_alloc_new wr _
            have h8 := h.keep k8
            have r8 := r.keep k8
            go_upto_region 15 with (fail)
            clear h r k8 nw d0 d1 d2 d3 d4 d5 d6 c0 c1 c2 c3 c4 c5 c6
            revert y8 h8 r8
            generalize wr.alloc _ = w8
            generalize wr.heap.size = q
            intro y8 h8 r8
            have D1 := fun w => denom_any y.den i4 w
            have N1 := fun w => name_any y.fr i2 w
            have N2 := fun w => name_any y.to i3 w
            go_cut [15] from 42 to 68 (fun v wx => ∃ (Q3 : Nat) (c : Co), v = .pointer (some ⟨Q3, 0, none⟩) ∧ w.heap.size ≤ Q3 ∧ U64 c.amt ∧ Sg w wx a n s ∧ Rk w wx b n s ∧ aZ wx q y ∧ cn wx Q3 c)
            case first =>
              have h7d := h8.drew
              have r7d := r8.drew
              have a7d : aZ w8.drew q y := y8
              go_wp2_with fail
              refine wp_region_held_drew (S := (fun w' => New w8.drew w')) (by kernel_rfl) ?_ (fun hHeld => ?_)
              · exact New.refl _
              have sg := hHeld
              refine wpAnyH_take (i := 0) (oi := ⟨some 56, _, _, _, _, _⟩) (v := ?_) rfl (by kernel_rfl) (by kernel_rfl) (by kernel_rfl) (fun _ _ _ h => h) (Or.inl ⟨by rfl, ?_⟩) (by assumption) ?_
              rotate_left
              · (intro wq hSw; (try dsimp only at hSw); go_simp; try with_reducible rfl)
              try simp only [Act.put, List.setIfInBounds_toArray, List.set_cons_zero, List.set_cons_succ]
              refine wpAnyH_take (i := 1) (oi := ⟨some 57, _, _, _, _, _⟩) (v := ?_) rfl (by kernel_rfl) (by kernel_rfl) (by kernel_rfl) (fun _ _ _ h => h) (Or.inl ⟨by rfl, ?_⟩) (by assumption) ?_
              rotate_left
              · (intro wq hSw; (try dsimp only at hSw); have d := act_cells (hSw.kept a7d (fun h => h)); go_simp; try with_reducible rfl)
              try simp only [Act.put, List.setIfInBounds_toArray, List.set_cons_zero, List.set_cons_succ]
              refine wpAnyH_take (i := 3) (oi := ⟨some 59, _, _, _, _, _⟩) (v := ?_) rfl (by kernel_rfl) (by kernel_rfl) (by kernel_rfl) (fun _ _ _ h => h) (Or.inl ⟨by rfl, ?_⟩) (by assumption) ?_
              rotate_left
              · (intro wq hSw; (try dsimp only at hSw); go_simp; try with_reducible rfl)
              try simp only [Act.put, List.setIfInBounds_toArray, List.set_cons_zero, List.set_cons_succ]
              refine wpAnyH_take (i := 4) (oi := ⟨some 60, _, _, _, _, _⟩) (v := ?_) rfl (by kernel_rfl) (by kernel_rfl) (by kernel_rfl) (fun _ _ _ h => h) (Or.inl ⟨by rfl, ?_⟩) (by assumption) ?_
              rotate_left
              · (intro wq hSw; (try dsimp only at hSw); have d := act_cells (hSw.kept a7d (fun h => h)); go_simp; try with_reducible rfl)
              try simp only [Act.put, List.setIfInBounds_toArray, List.set_cons_zero, List.set_cons_succ]
              refine wpAnyH_take (i := 5) (oi := ⟨some 61, _, _, _, _, _⟩) (v := ?_) rfl (by kernel_rfl) (by kernel_rfl) (by kernel_rfl) (fun _ _ _ h => h) (Or.inl ⟨by rfl, ?_⟩) (by assumption) ?_
              rotate_left
              · (intro wq hSw; (try dsimp only at hSw); go_simp; try with_reducible rfl)
              try simp only [Act.put, List.setIfInBounds_toArray, List.set_cons_zero, List.set_cons_succ]
              refine wpAnyH_take (i := 6) (oi := ⟨some 62, _, _, _, _, _⟩) (v := ?_) rfl (by kernel_rfl) (by kernel_rfl) (by kernel_rfl) (fun _ _ _ h => h) (Or.inl ⟨by rfl, ?_⟩) (by assumption) ?_
              rotate_left
              · (intro wq hSw; (try dsimp only at hSw); have d := act_cells (hSw.kept a7d (fun h => h)); go_simp; try with_reducible rfl)
              try simp only [Act.put, List.setIfInBounds_toArray, List.set_cons_zero, List.set_cons_succ]
              refine wpAnyH_take (i := 8) (oi := ⟨some 64, _, _, _, _, _⟩) (v := ?_) rfl (by kernel_rfl) (by kernel_rfl) (by kernel_rfl) (fun _ _ _ h => h) (Or.inl ⟨by rfl, ?_⟩) (by assumption) ?_
              rotate_left
              · (intro wq hSw; (try dsimp only at hSw); go_simp; try with_reducible rfl)
              try simp only [Act.put, List.setIfInBounds_toArray, List.set_cons_zero, List.set_cons_succ]
              refine wpAnyH_take (i := 9) (oi := ⟨some 65, _, _, _, _, _⟩) (v := ?_) rfl (by kernel_rfl) (by kernel_rfl) (by kernel_rfl) (fun _ _ _ h => h) (Or.inl ⟨by rfl, ?_⟩) (by assumption) ?_
              rotate_left
              · (intro wq hSw; (try dsimp only at hSw); have d := act_cells (hSw.kept a7d (fun h => h)); go_simp; try with_reducible rfl)
              try simp only [Act.put, List.setIfInBounds_toArray, List.set_cons_zero, List.set_cons_succ]
              refine wpAnyH_ready (rs := [2, 12]) (by kernel_rfl) (by simp) ?_
              refine AllReadyH.cons (o := ⟨some 58, _, _, _, _, _⟩) rfl (fun K hK => ?_) (AllReadyH.cons (o := ⟨some 15, _, _, _, _, _⟩) rfl (fun K hK => ?_) AllReadyH.nil)
              focus
                go_simp
                refine (D1 _).mono ?_; rintro e z2 ⟨rfl, y2⟩; first | have al := y2.kept al (fun h => h) | (have hq := sg.size; have al := y2.kept (heap_alloc_new _ _) (fun h => h)) | skip; have sg := hHeld.then y2 (fun _ h => h.elim)
                refine hK.out _ _ (hHeld.then y2 (fun _ h => h.elim)) (fun hHeld => ?_)
                clear hK K
                try simp only [Act.put, List.setIfInBounds_toArray, List.set_cons_zero, List.set_cons_succ]
                refine wpAnyH_ready (rs := [7, 12]) (by kernel_rfl) (by simp) ?_
                refine AllReadyH.cons (o := ⟨some 63, _, _, _, _, _⟩) rfl (fun K hK => ?_) (AllReadyH.cons (o := ⟨some 15, _, _, _, _, _⟩) rfl (fun K hK => ?_) AllReadyH.nil)
                focus
                  go_simp
                  refine (N1 _).mono ?_; rintro e z7 ⟨rfl, y7⟩; first | have al := y7.kept al (fun h => h) | (have hq := sg.size; have al := y7.kept (heap_alloc_new _ _) (fun h => h)) | skip; have sg := hHeld.then y7 (fun _ h => h.elim)
                  refine hK.out _ _ (hHeld.then y7 (fun _ h => h.elim)) (fun hHeld => ?_)
                  clear hK K
                  try simp only [Act.put, List.setIfInBounds_toArray, List.set_cons_zero, List.set_cons_succ]
                  refine wpAnyH_ready (rs := [10, 12]) (by kernel_rfl) (by simp) ?_
                  refine AllReadyH.cons (o := ⟨some 66, _, _, _, _, _⟩) rfl (fun K hK => ?_) (AllReadyH.cons (o := ⟨some 15, _, _, _, _, _⟩) rfl (fun K hK => ?_) AllReadyH.nil)
                  focus
                    go_simp
                    refine (N2 _).mono ?_; rintro e z10 ⟨rfl, y10⟩; first | have al := y10.kept al (fun h => h) | (have hq := sg.size; have al := y10.kept (heap_alloc_new _ _) (fun h => h)) | skip; have sg := hHeld.then y10 (fun _ h => h.elim)
                    refine hK.out _ _ (hHeld.then y10 (fun _ h => h.elim)) (fun hHeld => ?_)
                    clear hK K
                    try simp only [Act.put, List.setIfInBounds_toArray, List.set_cons_zero, List.set_cons_succ]
                    refine wpAnyH_take (i := 11) (oi := ⟨some 67, _, _, _, _, _⟩) (v := ?_) rfl (by kernel_rfl) (by kernel_rfl) (by kernel_rfl) (fun _ _ _ h => h) (Or.inl ⟨by rfl, ?_⟩) (by assumption) ?_
                    rotate_left
                    · (intro wq hSw; (try dsimp only at hSw); go_simp; try with_reducible rfl)
                    try simp only [Act.put, List.setIfInBounds_toArray, List.set_cons_zero, List.set_cons_succ]
                    refine wpAnyH_ready (rs := [12]) (by kernel_rfl) (by simp) ?_
                    refine AllReadyH.cons (o := ⟨some 15, _, _, _, _, _⟩) rfl (fun K hK => ?_) AllReadyH.nil
                    go_simp
                    refine hK.out _ _ (hHeld.alloc _) (fun hHeld => ?_)
                    clear hK K
                    try simp only [Act.put, List.setIfInBounds_toArray, List.set_cons_zero, List.set_cons_succ]
                    refine wpAnyH_ready (rs := [13]) (by kernel_rfl) (by simp) ?_
                    refine AllReadyH.cons (o := ⟨none, _, _, _, _, _⟩) rfl (fun K hK => ?_) AllReadyH.nil
                    first | (have da := cells4 al; go_simp) | go_simp
                    refine hK.out _ _ (by first | exact sg.alloc _ | exact (((hHeld.set hq 0 _).set hq 1 _).set hq 2 _).set hq 3 _) (fun hHeld => ?_)
                    clear hK K
                    try simp only [Act.put, List.setIfInBounds_toArray, List.set_cons_zero, List.set_cons_succ]
                    refine wpAnyH_done (by kernel_rfl) ?_ _
                  rotate_left 1
                  focus
                    go_simp
                    refine hK.out _ _ (hHeld.alloc _) (fun hHeld => ?_)
                    clear hK K
                    try simp only [Act.put, List.setIfInBounds_toArray, List.set_cons_zero, List.set_cons_succ]
                    refine wpAnyH_ready (rs := [10]) (by kernel_rfl) (by simp) ?_
                    refine AllReadyH.cons (o := ⟨some 66, _, _, _, _, _⟩) rfl (fun K hK => ?_) AllReadyH.nil
                    go_simp
                    refine (N2 _).mono ?_; rintro e z10 ⟨rfl, y10⟩; first | have al := y10.kept al (fun h => h) | (have hq := sg.size; have al := y10.kept (heap_alloc_new _ _) (fun h => h)) | skip; have sg := hHeld.then y10 (fun _ h => h.elim)
                    refine hK.out _ _ (hHeld.then y10 (fun _ h => h.elim)) (fun hHeld => ?_)
                    clear hK K
                    try simp only [Act.put, List.setIfInBounds_toArray, List.set_cons_zero, List.set_cons_succ]
                    refine wpAnyH_take (i := 11) (oi := ⟨some 67, _, _, _, _, _⟩) (v := ?_) rfl (by kernel_rfl) (by kernel_rfl) (by kernel_rfl) (fun _ _ _ h => h) (Or.inl ⟨by rfl, ?_⟩) (by assumption) ?_
                    rotate_left
                    · (intro wq hSw; (try dsimp only at hSw); go_simp; try with_reducible rfl)
                    try simp only [Act.put, List.setIfInBounds_toArray, List.set_cons_zero, List.set_cons_succ]
                    refine wpAnyH_ready (rs := [13]) (by kernel_rfl) (by simp) ?_
                    refine AllReadyH.cons (o := ⟨none, _, _, _, _, _⟩) rfl (fun K hK => ?_) AllReadyH.nil
                    first | (have da := cells4 al; go_simp) | go_simp
                    refine hK.out _ _ (by first | exact sg.alloc _ | exact (((hHeld.set hq 0 _).set hq 1 _).set hq 2 _).set hq 3 _) (fun hHeld => ?_)
                    clear hK K
                    try simp only [Act.put, List.setIfInBounds_toArray, List.set_cons_zero, List.set_cons_succ]
                    refine wpAnyH_done (by kernel_rfl) ?_ _
                  rotate_left 1
                rotate_left 2
                focus
                  go_simp
                  refine hK.out _ _ (hHeld.alloc _) (fun hHeld => ?_)
                  clear hK K
                  try simp only [Act.put, List.setIfInBounds_toArray, List.set_cons_zero, List.set_cons_succ]
                  refine wpAnyH_ready (rs := [7]) (by kernel_rfl) (by simp) ?_
                  refine AllReadyH.cons (o := ⟨some 63, _, _, _, _, _⟩) rfl (fun K hK => ?_) AllReadyH.nil
                  go_simp
                  refine (N1 _).mono ?_; rintro e z7 ⟨rfl, y7⟩; first | have al := y7.kept al (fun h => h) | (have hq := sg.size; have al := y7.kept (heap_alloc_new _ _) (fun h => h)) | skip; have sg := hHeld.then y7 (fun _ h => h.elim)
                  refine hK.out _ _ (hHeld.then y7 (fun _ h => h.elim)) (fun hHeld => ?_)
                  clear hK K
                  try simp only [Act.put, List.setIfInBounds_toArray, List.set_cons_zero, List.set_cons_succ]
                  refine wpAnyH_ready (rs := [10]) (by kernel_rfl) (by simp) ?_
                  refine AllReadyH.cons (o := ⟨some 66, _, _, _, _, _⟩) rfl (fun K hK => ?_) AllReadyH.nil
                  go_simp
                  refine (N2 _).mono ?_; rintro e z10 ⟨rfl, y10⟩; first | have al := y10.kept al (fun h => h) | (have hq := sg.size; have al := y10.kept (heap_alloc_new _ _) (fun h => h)) | skip; have sg := hHeld.then y10 (fun _ h => h.elim)
                  refine hK.out _ _ (hHeld.then y10 (fun _ h => h.elim)) (fun hHeld => ?_)
                  clear hK K
                  try simp only [Act.put, List.setIfInBounds_toArray, List.set_cons_zero, List.set_cons_succ]
                  refine wpAnyH_take (i := 11) (oi := ⟨some 67, _, _, _, _, _⟩) (v := ?_) rfl (by kernel_rfl) (by kernel_rfl) (by kernel_rfl) (fun _ _ _ h => h) (Or.inl ⟨by rfl, ?_⟩) (by assumption) ?_
                  rotate_left
                  · (intro wq hSw; (try dsimp only at hSw); go_simp; try with_reducible rfl)
                  try simp only [Act.put, List.setIfInBounds_toArray, List.set_cons_zero, List.set_cons_succ]
                  refine wpAnyH_ready (rs := [13]) (by kernel_rfl) (by simp) ?_
                  refine AllReadyH.cons (o := ⟨none, _, _, _, _, _⟩) rfl (fun K hK => ?_) AllReadyH.nil
                  first | (have da := cells4 al; go_simp) | go_simp
                  refine hK.out _ _ (by first | exact sg.alloc _ | exact (((hHeld.set hq 0 _).set hq 1 _).set hq 2 _).set hq 3 _) (fun hHeld => ?_)
                  clear hK K
                  try simp only [Act.put, List.setIfInBounds_toArray, List.set_cons_zero, List.set_cons_succ]
                  refine wpAnyH_done (by kernel_rfl) ?_ _
                rotate_left 1
              rotate_left 3
              focus
                go_simp
                refine hK.out _ _ (hHeld.alloc _) (fun hHeld => ?_)
                clear hK K
                try simp only [Act.put, List.setIfInBounds_toArray, List.set_cons_zero, List.set_cons_succ]
                refine wpAnyH_ready (rs := [2]) (by kernel_rfl) (by simp) ?_
                refine AllReadyH.cons (o := ⟨some 58, _, _, _, _, _⟩) rfl (fun K hK => ?_) AllReadyH.nil
                go_simp
                refine (D1 _).mono ?_; rintro e z2 ⟨rfl, y2⟩; first | have al := y2.kept al (fun h => h) | (have hq := sg.size; have al := y2.kept (heap_alloc_new _ _) (fun h => h)) | skip; have sg := hHeld.then y2 (fun _ h => h.elim)
                refine hK.out _ _ (hHeld.then y2 (fun _ h => h.elim)) (fun hHeld => ?_)
                clear hK K
                try simp only [Act.put, List.setIfInBounds_toArray, List.set_cons_zero, List.set_cons_succ]
                refine wpAnyH_ready (rs := [7]) (by kernel_rfl) (by simp) ?_
                refine AllReadyH.cons (o := ⟨some 63, _, _, _, _, _⟩) rfl (fun K hK => ?_) AllReadyH.nil
                go_simp
                refine (N1 _).mono ?_; rintro e z7 ⟨rfl, y7⟩; first | have al := y7.kept al (fun h => h) | (have hq := sg.size; have al := y7.kept (heap_alloc_new _ _) (fun h => h)) | skip; have sg := hHeld.then y7 (fun _ h => h.elim)
                refine hK.out _ _ (hHeld.then y7 (fun _ h => h.elim)) (fun hHeld => ?_)
                clear hK K
                try simp only [Act.put, List.setIfInBounds_toArray, List.set_cons_zero, List.set_cons_succ]
                refine wpAnyH_ready (rs := [10]) (by kernel_rfl) (by simp) ?_
                refine AllReadyH.cons (o := ⟨some 66, _, _, _, _, _⟩) rfl (fun K hK => ?_) AllReadyH.nil
                go_simp
                refine (N2 _).mono ?_; rintro e z10 ⟨rfl, y10⟩; first | have al := y10.kept al (fun h => h) | (have hq := sg.size; have al := y10.kept (heap_alloc_new _ _) (fun h => h)) | skip; have sg := hHeld.then y10 (fun _ h => h.elim)
                refine hK.out _ _ (hHeld.then y10 (fun _ h => h.elim)) (fun hHeld => ?_)
                clear hK K
                try simp only [Act.put, List.setIfInBounds_toArray, List.set_cons_zero, List.set_cons_succ]
                refine wpAnyH_take (i := 11) (oi := ⟨some 67, _, _, _, _, _⟩) (v := ?_) rfl (by kernel_rfl) (by kernel_rfl) (by kernel_rfl) (fun _ _ _ h => h) (Or.inl ⟨by rfl, ?_⟩) (by assumption) ?_
                rotate_left
                · (intro wq hSw; (try dsimp only at hSw); go_simp; try with_reducible rfl)
                try simp only [Act.put, List.setIfInBounds_toArray, List.set_cons_zero, List.set_cons_succ]
                refine wpAnyH_ready (rs := [13]) (by kernel_rfl) (by simp) ?_
                refine AllReadyH.cons (o := ⟨none, _, _, _, _, _⟩) rfl (fun K hK => ?_) AllReadyH.nil
                first | (have da := cells4 al; go_simp) | go_simp
                refine hK.out _ _ (by first | exact sg.alloc _ | exact (((hHeld.set hq 0 _).set hq 1 _).set hq 2 _).set hq 3 _) (fun hHeld => ?_)
                clear hK K
                try simp only [Act.put, List.setIfInBounds_toArray, List.set_cons_zero, List.set_cons_succ]
                refine wpAnyH_done (by kernel_rfl) ?_ _
              rotate_left 1
              all_goals
                go_wp2_with fail
                go_meet
                case rel =>
                  have z1 := h8.new.size
                  have z2 := sg.size
                  first
                    | (have al2 := al
                       exact ⟨_, ⟨dnL (pk y.den 7), y.n, nmL (pk y.fr 6), nmL (pk y.to 6)⟩, rfl, Nat.le_trans z1 hq, i6, h7d.keep hHeld, r7d.keep hHeld, a7d.keep hHeld, ((((show c4 _ _ _ _ _ _ from al2).set0 _).set1 _).set2 _).set3 _⟩)
                    | exact ⟨_, ⟨dnL (pk y.den 7), y.n, nmL (pk y.fr 6), nmL (pk y.to 6)⟩, rfl, Nat.le_trans z1 z2, i6, h7d.keep hHeld, r7d.keep hHeld, a7d.keep hHeld, heap_alloc_new _ _⟩
            case rest =>
              clear h8 r8 y8 D1 N1 N2
              obtain ⟨Q3, c, rfl, hQ3, hcc, h8, r8, a8, p8⟩ := hcut
              go_upto_region 16 with (fail)
              go_cut [77] from 42 to 77 (fun v wx => v = .bool (decide (k % 5 = 4 ∧ k / 5 < len2)) ∧ wx = wc)
              case first =>
                obtain ⟨km, hkm⟩ : ∃ km, Hid (k % 5 = km) := ⟨_, rfl⟩
                obtain ⟨kd, hkd⟩ : ∃ kd, Hid (k / 5 = kd) := ⟨_, rfl⟩
                have e5 : (k : Int).tmod 5 = (km : Int) := by rw [Int.tmod_eq_emod_of_nonneg hk0, ← hkm.out]; omega
                have e6 : (k : Int).tdiv 5 = (kd : Int) := by rw [Int.tdiv_eq_ediv_of_nonneg hk0, ← hkd.out]; omega
                have e8 : (0 : Int) ≤ (kd : Int) := Int.natCast_nonneg _
                have e8b : (kd : Int) ≤ 40 := by rw [← hkd.out]; omega
                by_cases g1 : km = 4
                · have e5b : ((km : Int) == 4) = true := by rw [g1]; rfl
                  by_cases g2 : kd < len2
                  · have e7 : (kd : Int) < (len2 : Int) := by omega
                    have E9 : Hid (decide (k % 5 = 4 ∧ k / 5 < len2) = true) := by rw [Hid, hkm.out, hkd.out]; exact decide_eq_true ⟨g1, g2⟩
                    clear g1
                    go_wp2_with fail
                    go_meet
                    case rel => exact ⟨by rw [E9.out], rfl⟩
                  · have e7 : ¬ (kd : Int) < (len2 : Int) := by omega
                    have E9 : Hid (decide (k % 5 = 4 ∧ k / 5 < len2) = false) := by rw [Hid, hkm.out, hkd.out]; exact decide_eq_false (fun h => g2 h.2)
                    clear g1
                    go_wp2_with fail
                    go_meet
                    case rel => exact ⟨by rw [E9.out], rfl⟩
                · have E9 : Hid (decide (k % 5 = 4 ∧ k / 5 < len2) = false) := by rw [Hid, hkm.out, hkd.out]; exact decide_eq_false (fun h => g1 h.1)
                  have e5b : ((km : Int) == 4) = false := by simp; omega
                  clear g1
                  go_wp2_with fail
                  go_meet
                  case rel => exact ⟨by rw [E9.out], rfl⟩
              case rest =>
              obtain ⟨rfl, rfl⟩ := hcut
              go_upto_if 77 with (fail)
              go_cut [15] from 42 to 83 (fun v wx => v = .pointer (some ⟨Q3, 0, none⟩) ∧ ∃ c : Co, U64 c.amt ∧ Sg w wx a n s ∧ Rk w wx b n s ∧ aZ wx q y ∧ cn wx Q3 c)
              case first =>
                by_cases h5 : k % 5 = 4 ∧ k / 5 < len2
                · obtain ⟨bC, oC, rfl, hbC, ⟨j0, j1, j2, j3⟩, f0, f1, f2, f3⟩ := hC (k / 5) lc[k / 5] (List.getElem?_eq_getElem (by omega))
                  generalize lc[k / 5] = cc at *
                  have e9 : decide (k % 5 = 4 ∧ k / 5 < len2) = true := decide_eq_true h5
                  rw [e9]
                  obtain ⟨kd, hkd⟩ : ∃ kd, Hid (k / 5 = kd) := ⟨_, rfl⟩
                  have e6 : (k : Int).tdiv 5 = (kd : Int) := by rw [Int.tdiv_eq_ediv_of_nonneg hk0, ← hkd.out]; omega
                  rw [hkd.out] at h5 f0 f1 f2 f3
                  have e7 : (kd : Int) < (len2 : Int) := by omega
                  have e8 : (0 : Int) ≤ (kd : Int) := Int.natCast_nonneg _
                  clear h5 e9
                  have nw := h8.new
                  have d0 := (nw.cell (p := ⟨bC, oC + kd * 4, none⟩) hbC (fun h => h)).trans f0
                  have d1 := (nw.cell (p := ⟨bC, oC + kd * 4 + 1, none⟩) hbC (fun h => h)).trans f1
                  have d2 := (nw.cell (p := ⟨bC, oC + kd * 4 + 2, none⟩) hbC (fun h => h)).trans f2
                  have d3 := (nw.cell (p := ⟨bC, oC + kd * 4 + 3, none⟩) hbC (fun h => h)).trans f3
                  have dd := cells4 (show c4 _ _ _ _ _ _ from p8)
                  have kS : Keeps (fun k => k = Q3) wc ((((wc.setCell ⟨Q3, 0, none⟩ (.string ⟨cc.den.toArray⟩)).setCell ⟨Q3, 1, none⟩ (.int .u64 (cc.amt : Nat))).setCell ⟨Q3, 2, none⟩ (.string ⟨cc.fr.toArray⟩)).setCell ⟨Q3, 3, none⟩ (.string ⟨cc.to.toArray⟩)) := ((((Keeps.refl (fun k => k = Q3) wc).set1 0 _).set1 1 _).set1 2 _).set1 3 _
                  have h9 := h8.storedC p8 hQ3 kS
                  have r9 := r8.storedC p8 kS
                  have a9 := a8.storedC p8 kS
                  have p9 : cn ((((wc.setCell ⟨Q3, 0, none⟩ (.string ⟨cc.den.toArray⟩)).setCell ⟨Q3, 1, none⟩ (.int .u64 (cc.amt : Nat))).setCell ⟨Q3, 2, none⟩ (.string ⟨cc.fr.toArray⟩)).setCell ⟨Q3, 3, none⟩ (.string ⟨cc.to.toArray⟩)) Q3 cc := ((((show c4 _ _ _ _ _ _ from p8).set0 _).set1 _).set2 _).set3 _
                  go_wp2_with fail
                  go_meet
                  case rel => exact ⟨rfl, cc, j1, h9, r9, a9, p9⟩
                · have e9 : decide (k % 5 = 4 ∧ k / 5 < len2) = false := decide_eq_false h5
                  rw [e9]
                  go_wp2_with fail
                  go_meet
                  case rel => exact ⟨rfl, c, hcc, h8, r8, a8, p8⟩
              case rest =>
                clear h8 r8 a8 p8 hcc c
                obtain ⟨rfl, c, hcc, h8, r8, a8, p8⟩ := hcut
                have S1 := fun w => pickC_any y.side 2 w i1 (by omega) (by omega)
                have ho := pk_lt y.side 2 (by omega)
                generalize pk y.side 2 = o at *
                have da := act_cells a8
                have eH : IntKind.i64.wrap (1 + (o : Int)) = ((1 + o : Nat) : Int) := by rw [IntWalk.i64_in _ ⟨by omega, by omega⟩]; omega
                have eU : IntKind.u64.wrap ((1 + o : Nat) : Int) = ((1 + o : Nat) : Int) := IntWalk.u64_in _ ⟨by omega, by omega⟩
                have eQ : IntKind.u64.wrap (3 - ((1 + o : Nat) : Int)) = ((2 - o : Nat) : Int) := by rw [IntWalk.u64_in _ ⟨by omega, by omega⟩]; omega
                have up : U64 (1 + o) := by show _ < _; omega
                have uq : U64 (2 - o) := by show _ < _; omega
                generalize 1 + o = p0 at *
                generalize 2 - o = q0 at *
                go_wp2_with fail
                refine (S1 _).mono ?_
                rintro e z1 ⟨rfl, rfl⟩
                go_upto_region 20 with (fail)
                go_cut [92] from 42 to 92 (fun v wx => v = .bool (decide (k % 7 = 3)) ∧ wx = wc)
                case first =>
                  obtain ⟨km, hkm⟩ : ∃ km, Hid (k % 7 = km) := ⟨_, rfl⟩
                  have e5 : (k : Int).tmod 7 = (km : Int) := by rw [Int.tmod_eq_emod_of_nonneg hk0, ← hkm.out]; omega
                  by_cases g1 : km = 3
                  · have e5b : ((km : Int) == 3) = true := by rw [g1]; rfl
                    have E9 : Hid (decide (k % 7 = 3) = true) := by rw [Hid, hkm.out]; exact decide_eq_true g1
                    clear g1
                    go_wp2_with fail
                    go_meet
                    case rel => exact ⟨by rw [E9.out], rfl⟩
                  · have e5b : ((km : Int) == 3) = false := by simp; omega
                    have E9 : Hid (decide (k % 7 = 3) = false) := by rw [Hid, hkm.out]; exact decide_eq_false g1
                    clear g1
                    go_wp2_with fail
                    go_meet
                    case rel => exact ⟨by rw [E9.out], rfl⟩
                case rest =>
                obtain ⟨rfl, rfl⟩ := hcut
                go_upto_if 92 with (fail)
                go_cut [16, 17] from 42 to 95 (fun u v wx => (∃ p1 q1 : Nat, u = .int .u64 (p1 : Nat) ∧ v = .int .u64 (q1 : Nat) ∧ U64 p1 ∧ U64 q1) ∧ wx = wc)
                case first =>
                  generalize decide (k % 7 = 3) = B at *
                  rcases B with _ | _
                  · go_wp2_with fail
                    go_meet
                    case rel => exact ⟨⟨p0, q0, rfl, rfl, up, uq⟩, rfl⟩
                  · go_wp2_with fail
                    go_meet
                    case rel => exact ⟨⟨ch, pe, rfl, rfl, uch, upe⟩, rfl⟩
                case rest =>
                  obtain ⟨⟨p1, q1, rfl, rfl, hp, hq⟩, rfl⟩ := hcut
                  clear eH eU eQ up uq ho S1
                  have W7 := fun w => pickC_any y.what 7 w i0 (by omega) (by omega)
                  have hkk := pk_lt y.what 7 (by omega)
                  generalize pk y.what 7 = kk at *
                  have da := act_cells a8
                  go_wp2_with fail
                  refine (W7 _).mono ?_
                  rintro e z1 ⟨rfl, rfl⟩
                  clear W7 da
                  go_upto_block 4 with (fail)
                  go_cut [18] from 42 to 134 (fun v wx => v = .bool true ∧ ∃ (n2 : Nat) (s2 : BkS), n2 ≤ n + 2 ∧ Sg w wx a n2 s2 ∧ Rk w wx b n2 s2)
                  case first =>
                    clear hA hC
                    rcases (by omega : kk = 0 ∨ kk = 1 ∨ kk = 2 ∨ kk = 3 ∨ kk = 4 ∨ kk = 5 ∨ kk = 6) with rfl | rfl | rfl | rfl | rfl | rfl | rfl
                    · have OA := fun z (g : Sg w z a n s) => g.act (fun ma sa hb => out_any a ma sa n s p1 hp c hcc (by omega) z hb)
                      have OB := fun z (g : Rk w z b n s) => rOutB p1 hp c hcc (by omega) z g
                      generalize outE s p1 c = E at *
                      generalize outS s p1 c = s2 at *
                      have hd := h8.drew
                      have rd := r8.drew
                      have pd := p8.drew
                      clear h8 r8 p8 a8
                      go_wp2_with fail
                      refine wp_region_held_drew (S := (fun w' => cn w' Q3 c)) (by kernel_rfl) ?_ (fun hHeld => ?_)
                      · exact pd
                      refine wpAnyH_take (i := 0) (oi := ⟨some 111, _, _, _, _, _⟩) (v := ?_) rfl (by kernel_rfl) (by kernel_rfl) (by kernel_rfl) (fun _ _ _ h => h) (Or.inl ⟨by rfl, ?_⟩) (by assumption) ?_
                      rotate_left
                      · (intro wq hSw; (try dsimp only at hSw); go_simp; try with_reducible rfl)
                      try simp only [Act.put, List.setIfInBounds_toArray, List.set_cons_zero, List.set_cons_succ]
                      refine wpAnyH_take (i := 1) (oi := ⟨some 112, _, _, _, _, _⟩) (v := ?_) rfl (by kernel_rfl) (by kernel_rfl) (by kernel_rfl) (fun _ _ _ h => h) (Or.inl ⟨by rfl, ?_⟩) (by assumption) ?_
                      rotate_left
                      · (intro wq hSw; (try dsimp only at hSw); go_simp; try with_reducible rfl)
                      try simp only [Act.put, List.setIfInBounds_toArray, List.set_cons_zero, List.set_cons_succ]
                      refine wpAnyH_take (i := 2) (oi := ⟨some 113, _, _, _, _, _⟩) (v := ?_) rfl (by kernel_rfl) (by kernel_rfl) (by kernel_rfl) (fun _ _ _ h => h) (Or.inl ⟨by rfl, ?_⟩) (by assumption) ?_
                      rotate_left
                      · (intro wq hSw; (try dsimp only at hSw); have d := hSw.cells; go_simp; try with_reducible rfl)
                      try simp only [Act.put, List.setIfInBounds_toArray, List.set_cons_zero, List.set_cons_succ]
                      refine wpAnyH_take (i := 4) (oi := ⟨some 115, _, _, _, _, _⟩) (v := ?_) rfl (by kernel_rfl) (by kernel_rfl) (by kernel_rfl) (fun _ _ _ h => h) (Or.inl ⟨by rfl, ?_⟩) (by assumption) ?_
                      rotate_left
                      · (intro wq hSw; (try dsimp only at hSw); go_simp; try with_reducible rfl)
                      try simp only [Act.put, List.setIfInBounds_toArray, List.set_cons_zero, List.set_cons_succ]
                      refine wpAnyH_take (i := 5) (oi := ⟨some 116, _, _, _, _, _⟩) (v := ?_) rfl (by kernel_rfl) (by kernel_rfl) (by kernel_rfl) (fun _ _ _ h => h) (Or.inl ⟨by rfl, ?_⟩) (by assumption) ?_
                      rotate_left
                      · (intro wq hSw; (try dsimp only at hSw); go_simp; try with_reducible rfl)
                      try simp only [Act.put, List.setIfInBounds_toArray, List.set_cons_zero, List.set_cons_succ]
                      refine wpAnyH_take (i := 6) (oi := ⟨some 117, _, _, _, _, _⟩) (v := ?_) rfl (by kernel_rfl) (by kernel_rfl) (by kernel_rfl) (fun _ _ _ h => h) (Or.inl ⟨by rfl, ?_⟩) (by assumption) ?_
                      rotate_left
                      · (intro wq hSw; (try dsimp only at hSw); have d := hSw.cells; go_simp; try with_reducible rfl)
                      try simp only [Act.put, List.setIfInBounds_toArray, List.set_cons_zero, List.set_cons_succ]
                      refine wpAnyH_ready (rs := [3]) (by kernel_rfl) (by simp) ?_
                      refine AllReadyH.cons (o := ⟨some 114, _, _, _, _, _⟩) rfl (fun K hK => ?_) AllReadyH.nil
                      go_simp
                      refine (OA _ hd).mono ?_; rintro e z3 ⟨rfl, h3, k3⟩; have r3 := rd.kc k3 h3.new
                      refine hK.out _ _ (hHeld.kc k3) (fun hHeld => ?_)
                      clear hK K
                      try simp only [Act.put, List.setIfInBounds_toArray, List.set_cons_zero, List.set_cons_succ]
                      refine wpAnyH_ready (rs := [7]) (by kernel_rfl) (by simp) ?_
                      refine AllReadyH.cons (o := ⟨some 118, _, _, _, _, _⟩) rfl (fun K hK => ?_) AllReadyH.nil
                      go_simp
                      refine (OB _ r3).mono ?_; rintro e z7 ⟨rfl, r7, k7⟩; have h7 := h3.byRows r3 k7
                      refine hK.out _ _ (hHeld.keepS k7 (r3.ne hHeld (by decide))) (fun hHeld => ?_)
                      clear hK K
                      try simp only [Act.put, List.setIfInBounds_toArray, List.set_cons_zero, List.set_cons_succ]
                      refine wpAnyH_take (i := 8) (oi := ⟨some 119, _, _, _, _, _⟩) (v := ?_) rfl (by kernel_rfl) (by kernel_rfl) (by kernel_rfl) (fun _ _ _ h => h) (Or.inl ⟨by rfl, ?_⟩) (by assumption) ?_
                      rotate_left
                      · (intro wq hSw; (try dsimp only at hSw); go_simp; try with_reducible rfl)
                      try simp only [Act.put, List.setIfInBounds_toArray, List.set_cons_zero, List.set_cons_succ]
                      refine wpAnyH_take (i := 9) (oi := ⟨some 18, _, _, _, _, _⟩) (v := ?_) rfl (by kernel_rfl) (by kernel_rfl) (by kernel_rfl) (fun _ _ _ h => h) (Or.inl ⟨by rfl, ?_⟩) (by assumption) ?_
                      rotate_left
                      · (intro wq hSw; (try dsimp only at hSw); go_simp; try with_reducible rfl)
                      try simp only [Act.put, List.setIfInBounds_toArray, List.set_cons_zero, List.set_cons_succ]
                      refine wpAnyH_done (by kernel_rfl) ?_ _
                      go_wp2_with fail
                      go_meet
                      case rel => exact ⟨by simp, n + 2, s2, by omega, h7, r7⟩
                    · have OA := fun z (g : Sg w z a n s) => g.act (fun ma sa hb => out_any a ma sa n s p1 hp c hcc (by omega) z hb)
                      have OB := fun z (g : Rk w z b n s) => rOutB p1 hp c hcc (by omega) z g
                      generalize outE s p1 c = E at *
                      generalize outS s p1 c = s2 at *
                      have hd := h8.drew
                      have rd := r8.drew
                      have pd := p8.drew
                      clear h8 r8 p8 a8
                      go_wp2_with fail
                      refine wp_region_held_drew (S := (fun w' => cn w' Q3 c)) (by kernel_rfl) ?_ (fun hHeld => ?_)
                      · exact pd
                      refine wpAnyH_take (i := 0) (oi := ⟨some 111, _, _, _, _, _⟩) (v := ?_) rfl (by kernel_rfl) (by kernel_rfl) (by kernel_rfl) (fun _ _ _ h => h) (Or.inl ⟨by rfl, ?_⟩) (by assumption) ?_
                      rotate_left
                      · (intro wq hSw; (try dsimp only at hSw); go_simp; try with_reducible rfl)
                      try simp only [Act.put, List.setIfInBounds_toArray, List.set_cons_zero, List.set_cons_succ]
                      refine wpAnyH_take (i := 1) (oi := ⟨some 112, _, _, _, _, _⟩) (v := ?_) rfl (by kernel_rfl) (by kernel_rfl) (by kernel_rfl) (fun _ _ _ h => h) (Or.inl ⟨by rfl, ?_⟩) (by assumption) ?_
                      rotate_left
                      · (intro wq hSw; (try dsimp only at hSw); go_simp; try with_reducible rfl)
                      try simp only [Act.put, List.setIfInBounds_toArray, List.set_cons_zero, List.set_cons_succ]
                      refine wpAnyH_take (i := 2) (oi := ⟨some 113, _, _, _, _, _⟩) (v := ?_) rfl (by kernel_rfl) (by kernel_rfl) (by kernel_rfl) (fun _ _ _ h => h) (Or.inl ⟨by rfl, ?_⟩) (by assumption) ?_
                      rotate_left
                      · (intro wq hSw; (try dsimp only at hSw); have d := hSw.cells; go_simp; try with_reducible rfl)
                      try simp only [Act.put, List.setIfInBounds_toArray, List.set_cons_zero, List.set_cons_succ]
                      refine wpAnyH_take (i := 4) (oi := ⟨some 115, _, _, _, _, _⟩) (v := ?_) rfl (by kernel_rfl) (by kernel_rfl) (by kernel_rfl) (fun _ _ _ h => h) (Or.inl ⟨by rfl, ?_⟩) (by assumption) ?_
                      rotate_left
                      · (intro wq hSw; (try dsimp only at hSw); go_simp; try with_reducible rfl)
                      try simp only [Act.put, List.setIfInBounds_toArray, List.set_cons_zero, List.set_cons_succ]
                      refine wpAnyH_take (i := 5) (oi := ⟨some 116, _, _, _, _, _⟩) (v := ?_) rfl (by kernel_rfl) (by kernel_rfl) (by kernel_rfl) (fun _ _ _ h => h) (Or.inl ⟨by rfl, ?_⟩) (by assumption) ?_
                      rotate_left
                      · (intro wq hSw; (try dsimp only at hSw); go_simp; try with_reducible rfl)
                      try simp only [Act.put, List.setIfInBounds_toArray, List.set_cons_zero, List.set_cons_succ]
                      refine wpAnyH_take (i := 6) (oi := ⟨some 117, _, _, _, _, _⟩) (v := ?_) rfl (by kernel_rfl) (by kernel_rfl) (by kernel_rfl) (fun _ _ _ h => h) (Or.inl ⟨by rfl, ?_⟩) (by assumption) ?_
                      rotate_left
                      · (intro wq hSw; (try dsimp only at hSw); have d := hSw.cells; go_simp; try with_reducible rfl)
                      try simp only [Act.put, List.setIfInBounds_toArray, List.set_cons_zero, List.set_cons_succ]
                      refine wpAnyH_ready (rs := [3]) (by kernel_rfl) (by simp) ?_
                      refine AllReadyH.cons (o := ⟨some 114, _, _, _, _, _⟩) rfl (fun K hK => ?_) AllReadyH.nil
                      go_simp
                      refine (OA _ hd).mono ?_; rintro e z3 ⟨rfl, h3, k3⟩; have r3 := rd.kc k3 h3.new
                      refine hK.out _ _ (hHeld.kc k3) (fun hHeld => ?_)
                      clear hK K
                      try simp only [Act.put, List.setIfInBounds_toArray, List.set_cons_zero, List.set_cons_succ]
                      refine wpAnyH_ready (rs := [7]) (by kernel_rfl) (by simp) ?_
                      refine AllReadyH.cons (o := ⟨some 118, _, _, _, _, _⟩) rfl (fun K hK => ?_) AllReadyH.nil
                      go_simp
                      refine (OB _ r3).mono ?_; rintro e z7 ⟨rfl, r7, k7⟩; have h7 := h3.byRows r3 k7
                      refine hK.out _ _ (hHeld.keepS k7 (r3.ne hHeld (by decide))) (fun hHeld => ?_)
                      clear hK K
                      try simp only [Act.put, List.setIfInBounds_toArray, List.set_cons_zero, List.set_cons_succ]
                      refine wpAnyH_take (i := 8) (oi := ⟨some 119, _, _, _, _, _⟩) (v := ?_) rfl (by kernel_rfl) (by kernel_rfl) (by kernel_rfl) (fun _ _ _ h => h) (Or.inl ⟨by rfl, ?_⟩) (by assumption) ?_
                      rotate_left
                      · (intro wq hSw; (try dsimp only at hSw); go_simp; try with_reducible rfl)
                      try simp only [Act.put, List.setIfInBounds_toArray, List.set_cons_zero, List.set_cons_succ]
                      refine wpAnyH_take (i := 9) (oi := ⟨some 18, _, _, _, _, _⟩) (v := ?_) rfl (by kernel_rfl) (by kernel_rfl) (by kernel_rfl) (fun _ _ _ h => h) (Or.inl ⟨by rfl, ?_⟩) (by assumption) ?_
                      rotate_left
                      · (intro wq hSw; (try dsimp only at hSw); go_simp; try with_reducible rfl)
                      try simp only [Act.put, List.setIfInBounds_toArray, List.set_cons_zero, List.set_cons_succ]
                      refine wpAnyH_done (by kernel_rfl) ?_ _
                      go_wp2_with fail
                      go_meet
                      case rel => exact ⟨by simp, n + 2, s2, by omega, h7, r7⟩
                    · have OA := fun z (g : Sg w z a n s) => g.act (fun ma sa hb => out_any a ma sa n s p1 hp c hcc (by omega) z hb)
                      have OB := fun z (g : Rk w z b n s) => rOutB p1 hp c hcc (by omega) z g
                      generalize outE s p1 c = E at *
                      generalize outS s p1 c = s2 at *
                      have hd := h8.drew
                      have rd := r8.drew
                      have pd := p8.drew
                      clear h8 r8 p8 a8
                      go_wp2_with fail
                      refine wp_region_held_drew (S := (fun w' => cn w' Q3 c)) (by kernel_rfl) ?_ (fun hHeld => ?_)
                      · exact pd
                      refine wpAnyH_take (i := 0) (oi := ⟨some 111, _, _, _, _, _⟩) (v := ?_) rfl (by kernel_rfl) (by kernel_rfl) (by kernel_rfl) (fun _ _ _ h => h) (Or.inl ⟨by rfl, ?_⟩) (by assumption) ?_
                      rotate_left
                      · (intro wq hSw; (try dsimp only at hSw); go_simp; try with_reducible rfl)
                      try simp only [Act.put, List.setIfInBounds_toArray, List.set_cons_zero, List.set_cons_succ]
                      refine wpAnyH_take (i := 1) (oi := ⟨some 112, _, _, _, _, _⟩) (v := ?_) rfl (by kernel_rfl) (by kernel_rfl) (by kernel_rfl) (fun _ _ _ h => h) (Or.inl ⟨by rfl, ?_⟩) (by assumption) ?_
                      rotate_left
                      · (intro wq hSw; (try dsimp only at hSw); go_simp; try with_reducible rfl)
                      try simp only [Act.put, List.setIfInBounds_toArray, List.set_cons_zero, List.set_cons_succ]
                      refine wpAnyH_take (i := 2) (oi := ⟨some 113, _, _, _, _, _⟩) (v := ?_) rfl (by kernel_rfl) (by kernel_rfl) (by kernel_rfl) (fun _ _ _ h => h) (Or.inl ⟨by rfl, ?_⟩) (by assumption) ?_
                      rotate_left
                      · (intro wq hSw; (try dsimp only at hSw); have d := hSw.cells; go_simp; try with_reducible rfl)
                      try simp only [Act.put, List.setIfInBounds_toArray, List.set_cons_zero, List.set_cons_succ]
                      refine wpAnyH_take (i := 4) (oi := ⟨some 115, _, _, _, _, _⟩) (v := ?_) rfl (by kernel_rfl) (by kernel_rfl) (by kernel_rfl) (fun _ _ _ h => h) (Or.inl ⟨by rfl, ?_⟩) (by assumption) ?_
                      rotate_left
                      · (intro wq hSw; (try dsimp only at hSw); go_simp; try with_reducible rfl)
                      try simp only [Act.put, List.setIfInBounds_toArray, List.set_cons_zero, List.set_cons_succ]
                      refine wpAnyH_take (i := 5) (oi := ⟨some 116, _, _, _, _, _⟩) (v := ?_) rfl (by kernel_rfl) (by kernel_rfl) (by kernel_rfl) (fun _ _ _ h => h) (Or.inl ⟨by rfl, ?_⟩) (by assumption) ?_
                      rotate_left
                      · (intro wq hSw; (try dsimp only at hSw); go_simp; try with_reducible rfl)
                      try simp only [Act.put, List.setIfInBounds_toArray, List.set_cons_zero, List.set_cons_succ]
                      refine wpAnyH_take (i := 6) (oi := ⟨some 117, _, _, _, _, _⟩) (v := ?_) rfl (by kernel_rfl) (by kernel_rfl) (by kernel_rfl) (fun _ _ _ h => h) (Or.inl ⟨by rfl, ?_⟩) (by assumption) ?_
                      rotate_left
                      · (intro wq hSw; (try dsimp only at hSw); have d := hSw.cells; go_simp; try with_reducible rfl)
                      try simp only [Act.put, List.setIfInBounds_toArray, List.set_cons_zero, List.set_cons_succ]
                      refine wpAnyH_ready (rs := [3]) (by kernel_rfl) (by simp) ?_
                      refine AllReadyH.cons (o := ⟨some 114, _, _, _, _, _⟩) rfl (fun K hK => ?_) AllReadyH.nil
                      go_simp
                      refine (OA _ hd).mono ?_; rintro e z3 ⟨rfl, h3, k3⟩; have r3 := rd.kc k3 h3.new
                      refine hK.out _ _ (hHeld.kc k3) (fun hHeld => ?_)
                      clear hK K
                      try simp only [Act.put, List.setIfInBounds_toArray, List.set_cons_zero, List.set_cons_succ]
                      refine wpAnyH_ready (rs := [7]) (by kernel_rfl) (by simp) ?_
                      refine AllReadyH.cons (o := ⟨some 118, _, _, _, _, _⟩) rfl (fun K hK => ?_) AllReadyH.nil
                      go_simp
                      refine (OB _ r3).mono ?_; rintro e z7 ⟨rfl, r7, k7⟩; have h7 := h3.byRows r3 k7
                      refine hK.out _ _ (hHeld.keepS k7 (r3.ne hHeld (by decide))) (fun hHeld => ?_)
                      clear hK K
                      try simp only [Act.put, List.setIfInBounds_toArray, List.set_cons_zero, List.set_cons_succ]
                      refine wpAnyH_take (i := 8) (oi := ⟨some 119, _, _, _, _, _⟩) (v := ?_) rfl (by kernel_rfl) (by kernel_rfl) (by kernel_rfl) (fun _ _ _ h => h) (Or.inl ⟨by rfl, ?_⟩) (by assumption) ?_
                      rotate_left
                      · (intro wq hSw; (try dsimp only at hSw); go_simp; try with_reducible rfl)
                      try simp only [Act.put, List.setIfInBounds_toArray, List.set_cons_zero, List.set_cons_succ]
                      refine wpAnyH_take (i := 9) (oi := ⟨some 18, _, _, _, _, _⟩) (v := ?_) rfl (by kernel_rfl) (by kernel_rfl) (by kernel_rfl) (fun _ _ _ h => h) (Or.inl ⟨by rfl, ?_⟩) (by assumption) ?_
                      rotate_left
                      · (intro wq hSw; (try dsimp only at hSw); go_simp; try with_reducible rfl)
                      try simp only [Act.put, List.setIfInBounds_toArray, List.set_cons_zero, List.set_cons_succ]
                      refine wpAnyH_done (by kernel_rfl) ?_ _
                      go_wp2_with fail
                      go_meet
                      case rel => exact ⟨by simp, n + 2, s2, by omega, h7, r7⟩
                    · have OA := fun z (g : Sg w z a n s) => g.act (fun ma sa hb => in_any a ma sa n s p1 q1 hp hq c hcc (by omega) z hb)
                      have OB := fun z (g : Rk w z b n s) => rInB p1 q1 hp hq c hcc (by omega) z g
                      generalize inE s p1 q1 c = E at *
                      generalize inS s p1 q1 c = s2 at *
                      have hd := h8.drew
                      have rd := r8.drew
                      have pd := p8.drew
                      clear h8 r8 p8 a8
                      go_wp2_with fail
                      refine wp_region_held_drew (S := (fun w' => cn w' Q3 c)) (by kernel_rfl) ?_ (fun hHeld => ?_)
                      · exact pd
                      refine wpAnyH_take (i := 0) (oi := ⟨some 123, _, _, _, _, _⟩) (v := ?_) rfl (by kernel_rfl) (by kernel_rfl) (by kernel_rfl) (fun _ _ _ h => h) (Or.inl ⟨by rfl, ?_⟩) (by assumption) ?_
                      rotate_left
                      · (intro wq hSw; (try dsimp only at hSw); go_simp; try with_reducible rfl)
                      try simp only [Act.put, List.setIfInBounds_toArray, List.set_cons_zero, List.set_cons_succ]
                      refine wpAnyH_take (i := 1) (oi := ⟨some 124, _, _, _, _, _⟩) (v := ?_) rfl (by kernel_rfl) (by kernel_rfl) (by kernel_rfl) (fun _ _ _ h => h) (Or.inl ⟨by rfl, ?_⟩) (by assumption) ?_
                      rotate_left
                      · (intro wq hSw; (try dsimp only at hSw); go_simp; try with_reducible rfl)
                      try simp only [Act.put, List.setIfInBounds_toArray, List.set_cons_zero, List.set_cons_succ]
                      refine wpAnyH_take (i := 2) (oi := ⟨some 125, _, _, _, _, _⟩) (v := ?_) rfl (by kernel_rfl) (by kernel_rfl) (by kernel_rfl) (fun _ _ _ h => h) (Or.inl ⟨by rfl, ?_⟩) (by assumption) ?_
                      rotate_left
                      · (intro wq hSw; (try dsimp only at hSw); go_simp; try with_reducible rfl)
                      try simp only [Act.put, List.setIfInBounds_toArray, List.set_cons_zero, List.set_cons_succ]
                      refine wpAnyH_take (i := 3) (oi := ⟨some 126, _, _, _, _, _⟩) (v := ?_) rfl (by kernel_rfl) (by kernel_rfl) (by kernel_rfl) (fun _ _ _ h => h) (Or.inl ⟨by rfl, ?_⟩) (by assumption) ?_
                      rotate_left
                      · (intro wq hSw; (try dsimp only at hSw); have d := hSw.cells; go_simp; try with_reducible rfl)
                      try simp only [Act.put, List.setIfInBounds_toArray, List.set_cons_zero, List.set_cons_succ]
                      refine wpAnyH_take (i := 5) (oi := ⟨some 128, _, _, _, _, _⟩) (v := ?_) rfl (by kernel_rfl) (by kernel_rfl) (by kernel_rfl) (fun _ _ _ h => h) (Or.inl ⟨by rfl, ?_⟩) (by assumption) ?_
                      rotate_left
                      · (intro wq hSw; (try dsimp only at hSw); go_simp; try with_reducible rfl)
                      try simp only [Act.put, List.setIfInBounds_toArray, List.set_cons_zero, List.set_cons_succ]
                      refine wpAnyH_take (i := 6) (oi := ⟨some 129, _, _, _, _, _⟩) (v := ?_) rfl (by kernel_rfl) (by kernel_rfl) (by kernel_rfl) (fun _ _ _ h => h) (Or.inl ⟨by rfl, ?_⟩) (by assumption) ?_
                      rotate_left
                      · (intro wq hSw; (try dsimp only at hSw); go_simp; try with_reducible rfl)
                      try simp only [Act.put, List.setIfInBounds_toArray, List.set_cons_zero, List.set_cons_succ]
                      refine wpAnyH_take (i := 7) (oi := ⟨some 130, _, _, _, _, _⟩) (v := ?_) rfl (by kernel_rfl) (by kernel_rfl) (by kernel_rfl) (fun _ _ _ h => h) (Or.inl ⟨by rfl, ?_⟩) (by assumption) ?_
                      rotate_left
                      · (intro wq hSw; (try dsimp only at hSw); go_simp; try with_reducible rfl)
                      try simp only [Act.put, List.setIfInBounds_toArray, List.set_cons_zero, List.set_cons_succ]
                      refine wpAnyH_take (i := 8) (oi := ⟨some 131, _, _, _, _, _⟩) (v := ?_) rfl (by kernel_rfl) (by kernel_rfl) (by kernel_rfl) (fun _ _ _ h => h) (Or.inl ⟨by rfl, ?_⟩) (by assumption) ?_
                      rotate_left
                      · (intro wq hSw; (try dsimp only at hSw); have d := hSw.cells; go_simp; try with_reducible rfl)
                      try simp only [Act.put, List.setIfInBounds_toArray, List.set_cons_zero, List.set_cons_succ]
                      refine wpAnyH_ready (rs := [4]) (by kernel_rfl) (by simp) ?_
                      refine AllReadyH.cons (o := ⟨some 127, _, _, _, _, _⟩) rfl (fun K hK => ?_) AllReadyH.nil
                      go_simp
                      refine (OA _ hd).mono ?_; rintro e z3 ⟨rfl, h3, k3⟩; have r3 := rd.kc k3 h3.new
                      refine hK.out _ _ (hHeld.kc k3) (fun hHeld => ?_)
                      clear hK K
                      try simp only [Act.put, List.setIfInBounds_toArray, List.set_cons_zero, List.set_cons_succ]
                      refine wpAnyH_ready (rs := [9]) (by kernel_rfl) (by simp) ?_
                      refine AllReadyH.cons (o := ⟨some 132, _, _, _, _, _⟩) rfl (fun K hK => ?_) AllReadyH.nil
                      go_simp
                      refine (OB _ r3).mono ?_; rintro e z7 ⟨rfl, r7, k7⟩; have h7 := h3.byRows r3 k7
                      refine hK.out _ _ (hHeld.keepS k7 (r3.ne hHeld (by decide))) (fun hHeld => ?_)
                      clear hK K
                      try simp only [Act.put, List.setIfInBounds_toArray, List.set_cons_zero, List.set_cons_succ]
                      refine wpAnyH_take (i := 10) (oi := ⟨some 133, _, _, _, _, _⟩) (v := ?_) rfl (by kernel_rfl) (by kernel_rfl) (by kernel_rfl) (fun _ _ _ h => h) (Or.inl ⟨by rfl, ?_⟩) (by assumption) ?_
                      rotate_left
                      · (intro wq hSw; (try dsimp only at hSw); go_simp; try with_reducible rfl)
                      try simp only [Act.put, List.setIfInBounds_toArray, List.set_cons_zero, List.set_cons_succ]
                      refine wpAnyH_take (i := 11) (oi := ⟨some 18, _, _, _, _, _⟩) (v := ?_) rfl (by kernel_rfl) (by kernel_rfl) (by kernel_rfl) (fun _ _ _ h => h) (Or.inl ⟨by rfl, ?_⟩) (by assumption) ?_
                      rotate_left
                      · (intro wq hSw; (try dsimp only at hSw); go_simp; try with_reducible rfl)
                      try simp only [Act.put, List.setIfInBounds_toArray, List.set_cons_zero, List.set_cons_succ]
                      refine wpAnyH_done (by kernel_rfl) ?_ _
                      go_wp2_with fail
                      go_meet
                      case rel => exact ⟨by simp, n + 2, s2, by omega, h7, r7⟩
                    · have OA := fun z (g : Sg w z a n s) => g.act (fun ma sa hb => in_any a ma sa n s p1 q1 hp hq c hcc (by omega) z hb)
                      have OB := fun z (g : Rk w z b n s) => rInB p1 q1 hp hq c hcc (by omega) z g
                      generalize inE s p1 q1 c = E at *
                      generalize inS s p1 q1 c = s2 at *
                      have hd := h8.drew
                      have rd := r8.drew
                      have pd := p8.drew
                      clear h8 r8 p8 a8
                      go_wp2_with fail
                      refine wp_region_held_drew (S := (fun w' => cn w' Q3 c)) (by kernel_rfl) ?_ (fun hHeld => ?_)
                      · exact pd
                      refine wpAnyH_take (i := 0) (oi := ⟨some 123, _, _, _, _, _⟩) (v := ?_) rfl (by kernel_rfl) (by kernel_rfl) (by kernel_rfl) (fun _ _ _ h => h) (Or.inl ⟨by rfl, ?_⟩) (by assumption) ?_
                      rotate_left
                      · (intro wq hSw; (try dsimp only at hSw); go_simp; try with_reducible rfl)
                      try simp only [Act.put, List.setIfInBounds_toArray, List.set_cons_zero, List.set_cons_succ]
                      refine wpAnyH_take (i := 1) (oi := ⟨some 124, _, _, _, _, _⟩) (v := ?_) rfl (by kernel_rfl) (by kernel_rfl) (by kernel_rfl) (fun _ _ _ h => h) (Or.inl ⟨by rfl, ?_⟩) (by assumption) ?_
                      rotate_left
                      · (intro wq hSw; (try dsimp only at hSw); go_simp; try with_reducible rfl)
                      try simp only [Act.put, List.setIfInBounds_toArray, List.set_cons_zero, List.set_cons_succ]
                      refine wpAnyH_take (i := 2) (oi := ⟨some 125, _, _, _, _, _⟩) (v := ?_) rfl (by kernel_rfl) (by kernel_rfl) (by kernel_rfl) (fun _ _ _ h => h) (Or.inl ⟨by rfl, ?_⟩) (by assumption) ?_
                      rotate_left
                      · (intro wq hSw; (try dsimp only at hSw); go_simp; try with_reducible rfl)
                      try simp only [Act.put, List.setIfInBounds_toArray, List.set_cons_zero, List.set_cons_succ]
                      refine wpAnyH_take (i := 3) (oi := ⟨some 126, _, _, _, _, _⟩) (v := ?_) rfl (by kernel_rfl) (by kernel_rfl) (by kernel_rfl) (fun _ _ _ h => h) (Or.inl ⟨by rfl, ?_⟩) (by assumption) ?_
                      rotate_left
                      · (intro wq hSw; (try dsimp only at hSw); have d := hSw.cells; go_simp; try with_reducible rfl)
                      try simp only [Act.put, List.setIfInBounds_toArray, List.set_cons_zero, List.set_cons_succ]
                      refine wpAnyH_take (i := 5) (oi := ⟨some 128, _, _, _, _, _⟩) (v := ?_) rfl (by kernel_rfl) (by kernel_rfl) (by kernel_rfl) (fun _ _ _ h => h) (Or.inl ⟨by rfl, ?_⟩) (by assumption) ?_
                      rotate_left
                      · (intro wq hSw; (try dsimp only at hSw); go_simp; try with_reducible rfl)
                      try simp only [Act.put, List.setIfInBounds_toArray, List.set_cons_zero, List.set_cons_succ]
                      refine wpAnyH_take (i := 6) (oi := ⟨some 129, _, _, _, _, _⟩) (v := ?_) rfl (by kernel_rfl) (by kernel_rfl) (by kernel_rfl) (fun _ _ _ h => h) (Or.inl ⟨by rfl, ?_⟩) (by assumption) ?_
                      rotate_left
                      · (intro wq hSw; (try dsimp only at hSw); go_simp; try with_reducible rfl)
                      try simp only [Act.put, List.setIfInBounds_toArray, List.set_cons_zero, List.set_cons_succ]
                      refine wpAnyH_take (i := 7) (oi := ⟨some 130, _, _, _, _, _⟩) (v := ?_) rfl (by kernel_rfl) (by kernel_rfl) (by kernel_rfl) (fun _ _ _ h => h) (Or.inl ⟨by rfl, ?_⟩) (by assumption) ?_
                      rotate_left
                      · (intro wq hSw; (try dsimp only at hSw); go_simp; try with_reducible rfl)
                      try simp only [Act.put, List.setIfInBounds_toArray, List.set_cons_zero, List.set_cons_succ]
                      refine wpAnyH_take (i := 8) (oi := ⟨some 131, _, _, _, _, _⟩) (v := ?_) rfl (by kernel_rfl) (by kernel_rfl) (by kernel_rfl) (fun _ _ _ h => h) (Or.inl ⟨by rfl, ?_⟩) (by assumption) ?_
                      rotate_left
                      · (intro wq hSw; (try dsimp only at hSw); have d := hSw.cells; go_simp; try with_reducible rfl)
                      try simp only [Act.put, List.setIfInBounds_toArray, List.set_cons_zero, List.set_cons_succ]
                      refine wpAnyH_ready (rs := [4]) (by kernel_rfl) (by simp) ?_
                      refine AllReadyH.cons (o := ⟨some 127, _, _, _, _, _⟩) rfl (fun K hK => ?_) AllReadyH.nil
                      go_simp
                      refine (OA _ hd).mono ?_; rintro e z3 ⟨rfl, h3, k3⟩; have r3 := rd.kc k3 h3.new
                      refine hK.out _ _ (hHeld.kc k3) (fun hHeld => ?_)
                      clear hK K
                      try simp only [Act.put, List.setIfInBounds_toArray, List.set_cons_zero, List.set_cons_succ]
                      refine wpAnyH_ready (rs := [9]) (by kernel_rfl) (by simp) ?_
                      refine AllReadyH.cons (o := ⟨some 132, _, _, _, _, _⟩) rfl (fun K hK => ?_) AllReadyH.nil
                      go_simp
                      refine (OB _ r3).mono ?_; rintro e z7 ⟨rfl, r7, k7⟩; have h7 := h3.byRows r3 k7
                      refine hK.out _ _ (hHeld.keepS k7 (r3.ne hHeld (by decide))) (fun hHeld => ?_)
                      clear hK K
                      try simp only [Act.put, List.setIfInBounds_toArray, List.set_cons_zero, List.set_cons_succ]
                      refine wpAnyH_take (i := 10) (oi := ⟨some 133, _, _, _, _, _⟩) (v := ?_) rfl (by kernel_rfl) (by kernel_rfl) (by kernel_rfl) (fun _ _ _ h => h) (Or.inl ⟨by rfl, ?_⟩) (by assumption) ?_
                      rotate_left
                      · (intro wq hSw; (try dsimp only at hSw); go_simp; try with_reducible rfl)
                      try simp only [Act.put, List.setIfInBounds_toArray, List.set_cons_zero, List.set_cons_succ]
                      refine wpAnyH_take (i := 11) (oi := ⟨some 18, _, _, _, _, _⟩) (v := ?_) rfl (by kernel_rfl) (by kernel_rfl) (by kernel_rfl) (fun _ _ _ h => h) (Or.inl ⟨by rfl, ?_⟩) (by assumption) ?_
                      rotate_left
                      · (intro wq hSw; (try dsimp only at hSw); go_simp; try with_reducible rfl)
                      try simp only [Act.put, List.setIfInBounds_toArray, List.set_cons_zero, List.set_cons_succ]
                      refine wpAnyH_done (by kernel_rfl) ?_ _
                      go_wp2_with fail
                      go_meet
                      case rel => exact ⟨by simp, n + 2, s2, by omega, h7, r7⟩
                    · have OA := fun z (g : Sg w z a n s) => g.act (fun ma sa hb => back_any a ma sa n s p1 hp c hcc (by omega) z hb)
                      have OB := fun z (g : Rk w z b n s) => rBackB p1 hp c hcc (by omega) z g
                      generalize backE s p1 c = E at *
                      generalize backS s p1 c = s2 at *
                      have hd := h8.drew
                      have rd := r8.drew
                      have pd := p8.drew
                      clear h8 r8 p8 a8
                      go_wp2_with fail
                      refine wp_region_held_drew (S := (fun w' => cn w' Q3 c)) (by kernel_rfl) ?_ (fun hHeld => ?_)
                      · exact pd
                      refine wpAnyH_take (i := 0) (oi := ⟨some 98, _, _, _, _, _⟩) (v := ?_) rfl (by kernel_rfl) (by kernel_rfl) (by kernel_rfl) (fun _ _ _ h => h) (Or.inl ⟨by rfl, ?_⟩) (by assumption) ?_
                      rotate_left
                      · (intro wq hSw; (try dsimp only at hSw); go_simp; try with_reducible rfl)
                      try simp only [Act.put, List.setIfInBounds_toArray, List.set_cons_zero, List.set_cons_succ]
                      refine wpAnyH_take (i := 1) (oi := ⟨some 99, _, _, _, _, _⟩) (v := ?_) rfl (by kernel_rfl) (by kernel_rfl) (by kernel_rfl) (fun _ _ _ h => h) (Or.inl ⟨by rfl, ?_⟩) (by assumption) ?_
                      rotate_left
                      · (intro wq hSw; (try dsimp only at hSw); go_simp; try with_reducible rfl)
                      try simp only [Act.put, List.setIfInBounds_toArray, List.set_cons_zero, List.set_cons_succ]
                      refine wpAnyH_take (i := 2) (oi := ⟨some 100, _, _, _, _, _⟩) (v := ?_) rfl (by kernel_rfl) (by kernel_rfl) (by kernel_rfl) (fun _ _ _ h => h) (Or.inl ⟨by rfl, ?_⟩) (by assumption) ?_
                      rotate_left
                      · (intro wq hSw; (try dsimp only at hSw); have d := hSw.cells; go_simp; try with_reducible rfl)
                      try simp only [Act.put, List.setIfInBounds_toArray, List.set_cons_zero, List.set_cons_succ]
                      refine wpAnyH_take (i := 4) (oi := ⟨some 102, _, _, _, _, _⟩) (v := ?_) rfl (by kernel_rfl) (by kernel_rfl) (by kernel_rfl) (fun _ _ _ h => h) (Or.inl ⟨by rfl, ?_⟩) (by assumption) ?_
                      rotate_left
                      · (intro wq hSw; (try dsimp only at hSw); go_simp; try with_reducible rfl)
                      try simp only [Act.put, List.setIfInBounds_toArray, List.set_cons_zero, List.set_cons_succ]
                      refine wpAnyH_take (i := 5) (oi := ⟨some 103, _, _, _, _, _⟩) (v := ?_) rfl (by kernel_rfl) (by kernel_rfl) (by kernel_rfl) (fun _ _ _ h => h) (Or.inl ⟨by rfl, ?_⟩) (by assumption) ?_
                      rotate_left
                      · (intro wq hSw; (try dsimp only at hSw); go_simp; try with_reducible rfl)
                      try simp only [Act.put, List.setIfInBounds_toArray, List.set_cons_zero, List.set_cons_succ]
                      refine wpAnyH_take (i := 6) (oi := ⟨some 104, _, _, _, _, _⟩) (v := ?_) rfl (by kernel_rfl) (by kernel_rfl) (by kernel_rfl) (fun _ _ _ h => h) (Or.inl ⟨by rfl, ?_⟩) (by assumption) ?_
                      rotate_left
                      · (intro wq hSw; (try dsimp only at hSw); have d := hSw.cells; go_simp; try with_reducible rfl)
                      try simp only [Act.put, List.setIfInBounds_toArray, List.set_cons_zero, List.set_cons_succ]
                      refine wpAnyH_ready (rs := [3]) (by kernel_rfl) (by simp) ?_
                      refine AllReadyH.cons (o := ⟨some 101, _, _, _, _, _⟩) rfl (fun K hK => ?_) AllReadyH.nil
                      go_simp
                      refine (OA _ hd).mono ?_; rintro e z3 ⟨rfl, h3, k3⟩; have r3 := rd.kc k3 h3.new
                      refine hK.out _ _ (hHeld.kc k3) (fun hHeld => ?_)
                      clear hK K
                      try simp only [Act.put, List.setIfInBounds_toArray, List.set_cons_zero, List.set_cons_succ]
                      refine wpAnyH_ready (rs := [7]) (by kernel_rfl) (by simp) ?_
                      refine AllReadyH.cons (o := ⟨some 105, _, _, _, _, _⟩) rfl (fun K hK => ?_) AllReadyH.nil
                      go_simp
                      refine (OB _ r3).mono ?_; rintro e z7 ⟨rfl, r7, k7⟩; have h7 := h3.byRows r3 k7
                      refine hK.out _ _ (hHeld.keepS k7 (r3.ne hHeld (by decide))) (fun hHeld => ?_)
                      clear hK K
                      try simp only [Act.put, List.setIfInBounds_toArray, List.set_cons_zero, List.set_cons_succ]
                      refine wpAnyH_take (i := 8) (oi := ⟨some 106, _, _, _, _, _⟩) (v := ?_) rfl (by kernel_rfl) (by kernel_rfl) (by kernel_rfl) (fun _ _ _ h => h) (Or.inl ⟨by rfl, ?_⟩) (by assumption) ?_
                      rotate_left
                      · (intro wq hSw; (try dsimp only at hSw); go_simp; try with_reducible rfl)
                      try simp only [Act.put, List.setIfInBounds_toArray, List.set_cons_zero, List.set_cons_succ]
                      refine wpAnyH_take (i := 9) (oi := ⟨some 18, _, _, _, _, _⟩) (v := ?_) rfl (by kernel_rfl) (by kernel_rfl) (by kernel_rfl) (fun _ _ _ h => h) (Or.inl ⟨by rfl, ?_⟩) (by assumption) ?_
                      rotate_left
                      · (intro wq hSw; (try dsimp only at hSw); go_simp; try with_reducible rfl)
                      try simp only [Act.put, List.setIfInBounds_toArray, List.set_cons_zero, List.set_cons_succ]
                      refine wpAnyH_done (by kernel_rfl) ?_ _
                      go_wp2_with fail
                      go_meet
                      case rel => exact ⟨by simp, n + 2, s2, by omega, h7, r7⟩
                    · have OA := fun z (g : Sg w z a n s) => g.act (fun ma sa hb => back_any a ma sa n s p1 hp c hcc (by omega) z hb)
                      have OB := fun z (g : Rk w z b n s) => rBackB p1 hp c hcc (by omega) z g
                      generalize backE s p1 c = E at *
                      generalize backS s p1 c = s2 at *
                      have hd := h8.drew
                      have rd := r8.drew
                      have pd := p8.drew
                      clear h8 r8 p8 a8
                      go_wp2_with fail
                      refine wp_region_held_drew (S := (fun w' => cn w' Q3 c)) (by kernel_rfl) ?_ (fun hHeld => ?_)
                      · exact pd
                      refine wpAnyH_take (i := 0) (oi := ⟨some 98, _, _, _, _, _⟩) (v := ?_) rfl (by kernel_rfl) (by kernel_rfl) (by kernel_rfl) (fun _ _ _ h => h) (Or.inl ⟨by rfl, ?_⟩) (by assumption) ?_
                      rotate_left
                      · (intro wq hSw; (try dsimp only at hSw); go_simp; try with_reducible rfl)
                      try simp only [Act.put, List.setIfInBounds_toArray, List.set_cons_zero, List.set_cons_succ]
                      refine wpAnyH_take (i := 1) (oi := ⟨some 99, _, _, _, _, _⟩) (v := ?_) rfl (by kernel_rfl) (by kernel_rfl) (by kernel_rfl) (fun _ _ _ h => h) (Or.inl ⟨by rfl, ?_⟩) (by assumption) ?_
                      rotate_left
                      · (intro wq hSw; (try dsimp only at hSw); go_simp; try with_reducible rfl)
                      try simp only [Act.put, List.setIfInBounds_toArray, List.set_cons_zero, List.set_cons_succ]
                      refine wpAnyH_take (i := 2) (oi := ⟨some 100, _, _, _, _, _⟩) (v := ?_) rfl (by kernel_rfl) (by kernel_rfl) (by kernel_rfl) (fun _ _ _ h => h) (Or.inl ⟨by rfl, ?_⟩) (by assumption) ?_
                      rotate_left
                      · (intro wq hSw; (try dsimp only at hSw); have d := hSw.cells; go_simp; try with_reducible rfl)
                      try simp only [Act.put, List.setIfInBounds_toArray, List.set_cons_zero, List.set_cons_succ]
                      refine wpAnyH_take (i := 4) (oi := ⟨some 102, _, _, _, _, _⟩) (v := ?_) rfl (by kernel_rfl) (by kernel_rfl) (by kernel_rfl) (fun _ _ _ h => h) (Or.inl ⟨by rfl, ?_⟩) (by assumption) ?_
                      rotate_left
                      · (intro wq hSw; (try dsimp only at hSw); go_simp; try with_reducible rfl)
                      try simp only [Act.put, List.setIfInBounds_toArray, List.set_cons_zero, List.set_cons_succ]
                      refine wpAnyH_take (i := 5) (oi := ⟨some 103, _, _, _, _, _⟩) (v := ?_) rfl (by kernel_rfl) (by kernel_rfl) (by kernel_rfl) (fun _ _ _ h => h) (Or.inl ⟨by rfl, ?_⟩) (by assumption) ?_
                      rotate_left
                      · (intro wq hSw; (try dsimp only at hSw); go_simp; try with_reducible rfl)
                      try simp only [Act.put, List.setIfInBounds_toArray, List.set_cons_zero, List.set_cons_succ]
                      refine wpAnyH_take (i := 6) (oi := ⟨some 104, _, _, _, _, _⟩) (v := ?_) rfl (by kernel_rfl) (by kernel_rfl) (by kernel_rfl) (fun _ _ _ h => h) (Or.inl ⟨by rfl, ?_⟩) (by assumption) ?_
                      rotate_left
                      · (intro wq hSw; (try dsimp only at hSw); have d := hSw.cells; go_simp; try with_reducible rfl)
                      try simp only [Act.put, List.setIfInBounds_toArray, List.set_cons_zero, List.set_cons_succ]
                      refine wpAnyH_ready (rs := [3]) (by kernel_rfl) (by simp) ?_
                      refine AllReadyH.cons (o := ⟨some 101, _, _, _, _, _⟩) rfl (fun K hK => ?_) AllReadyH.nil
                      go_simp
                      refine (OA _ hd).mono ?_; rintro e z3 ⟨rfl, h3, k3⟩; have r3 := rd.kc k3 h3.new
                      refine hK.out _ _ (hHeld.kc k3) (fun hHeld => ?_)
                      clear hK K
                      try simp only [Act.put, List.setIfInBounds_toArray, List.set_cons_zero, List.set_cons_succ]
                      refine wpAnyH_ready (rs := [7]) (by kernel_rfl) (by simp) ?_
                      refine AllReadyH.cons (o := ⟨some 105, _, _, _, _, _⟩) rfl (fun K hK => ?_) AllReadyH.nil
                      go_simp
                      refine (OB _ r3).mono ?_; rintro e z7 ⟨rfl, r7, k7⟩; have h7 := h3.byRows r3 k7
                      refine hK.out _ _ (hHeld.keepS k7 (r3.ne hHeld (by decide))) (fun hHeld => ?_)
                      clear hK K
                      try simp only [Act.put, List.setIfInBounds_toArray, List.set_cons_zero, List.set_cons_succ]
                      refine wpAnyH_take (i := 8) (oi := ⟨some 106, _, _, _, _, _⟩) (v := ?_) rfl (by kernel_rfl) (by kernel_rfl) (by kernel_rfl) (fun _ _ _ h => h) (Or.inl ⟨by rfl, ?_⟩) (by assumption) ?_
                      rotate_left
                      · (intro wq hSw; (try dsimp only at hSw); go_simp; try with_reducible rfl)
                      try simp only [Act.put, List.setIfInBounds_toArray, List.set_cons_zero, List.set_cons_succ]
                      refine wpAnyH_take (i := 9) (oi := ⟨some 18, _, _, _, _, _⟩) (v := ?_) rfl (by kernel_rfl) (by kernel_rfl) (by kernel_rfl) (fun _ _ _ h => h) (Or.inl ⟨by rfl, ?_⟩) (by assumption) ?_
                      rotate_left
                      · (intro wq hSw; (try dsimp only at hSw); go_simp; try with_reducible rfl)
                      try simp only [Act.put, List.setIfInBounds_toArray, List.set_cons_zero, List.set_cons_succ]
                      refine wpAnyH_done (by kernel_rfl) ?_ _
                      go_wp2_with fail
                      go_meet
                      case rel => exact ⟨by simp, n + 2, s2, by omega, h7, r7⟩
                  case rest =>
                    clear h8 r8 p8 a8 hp hq hcc
                    obtain ⟨rfl, n2, s2, hn2, h9, r9⟩ := hcut
                    go_wp2_with fail
                    go_loopw [19] (fun i wr => ∃ m : Nat, m ≤ 6 ∧ i = .int .i64 m ∧ Sg w wr a n2 s2 ∧ Rk w wr b n2 s2) (fun i _ => 6 - (intOf i).toNat)
                    case atStart => exact ⟨0, by omega, rfl, h9, r9⟩
                    case round =>
                      clear h9 r9
                      obtain ⟨m, hm, rfl, hy, ry⟩ := hrel
                      have hm0 : (0 : Int) ≤ (m : Int) := Int.natCast_nonneg _
                      by_cases hm6 : m < 6
                      · have DM := fun w => denom_any (m : Int) ⟨by omega, by omega⟩ w
                        have hl1 := dnL_len (pk (m : Int) 7)
                        generalize dnL (pk (m : Int) 7) = u at *
                        go_wp2_with fail
                        refine (DM _).mono ?_
                        rintro e z1 ⟨rfl, y1⟩
                        have h1 := hy.keep y1
                        have r1 := ry.keep y1
                        clear hy ry y1
                        go_wp2_with fail
                        refine (h1.sup u (by omega)).mono ?_
                        rintro e z2 ⟨rfl, rfl⟩
                        go_wp2_with fail
                        refine (DM _).mono ?_
                        rintro e z3 ⟨rfl, y3⟩
                        have h3 := h1.keep y3
                        have r3 := r1.keep y3
                        clear h1 r1 y3
                        go_wp2_with fail
                        refine (r3.sup (by omega) u).mono ?_
                        rintro e z4 ⟨rfl, rfl⟩
                        generalize s2.sup u = M
                        go_wp2_with fail
                        go_loopw [20] (fun j wq => ∃ t : Nat, t ≤ 5 ∧ j = .int .i64 t ∧ Sg w wq a n2 s2 ∧ Rk w wq b n2 s2) (fun j _ => 5 - (intOf j).toNat)
                        case atStart => exact ⟨0, by omega, rfl, h3, r3⟩
                        case round =>
                          clear h3 r3
                          obtain ⟨t, ht, rfl, hy, ry⟩ := hrel
                          have ht0 : (0 : Int) ≤ (t : Int) := Int.natCast_nonneg _
                          by_cases ht5 : t < 5
                          · have NM := fun w => name_any (t : Int) ⟨by omega, by omega⟩ w
                            have hl2 := nmL_len (pk (t : Int) 6)
                            generalize nmL (pk (t : Int) 6) = d at *
                            go_wp2_with fail
                            refine (NM _).mono ?_
                            rintro e z1 ⟨rfl, y1⟩
                            have h1 := hy.keep y1
                            have r1 := ry.keep y1
                            clear hy ry y1
                            go_wp2_with fail
                            refine (DM _).mono ?_
                            rintro e z2 ⟨rfl, y2⟩
                            have h2 := h1.keep y2
                            have r2 := r1.keep y2
                            clear h1 r1 y2
                            go_wp2_with fail
                            refine (h2.bal u d (by omega) (by omega)).mono ?_
                            rintro e z3 ⟨rfl, rfl⟩
                            go_wp2_with fail
                            refine (NM _).mono ?_
                            rintro e z4 ⟨rfl, y4⟩
                            have h4 := h2.keep y4
                            have r4 := r2.keep y4
                            clear h2 r2 y4
                            go_wp2_with fail
                            refine (DM _).mono ?_
                            rintro e z5 ⟨rfl, y5⟩
                            have h5 := h4.keep y5
                            have r5 := r4.keep y5
                            clear h4 r4 y5
                            go_wp2_with fail
                            refine (r5.bal (by omega) u d).mono ?_
                            rintro e z6 ⟨rfl, rfl⟩
                            generalize s2.bal u d = N
                            go_wp2_with fail
                            go_roundw
                            case rel => exact ⟨t + 1, by omega, by go_num, h5, r5⟩
                            case measure => simp [intOf]; omega
                          · go_wp2_with fail
                            go_roundw
                            case rel => exact ⟨m + 1, by omega, by go_num, hy, ry⟩
                            case measure => simp [intOf]; omega
                      · go_wp2_with fail
                        go_roundw
                        case rel => exact ⟨k + 1, n2, s2, by omega, by omega, by omega, by go_num, hy, ry⟩
                        case measure => simp [intOf]; omega
          · go_wp2_with fail
            go_ret
            exact ⟨rfl, h.new⟩
        · go_wp2_with fail
          go_ret
          exact ⟨rfl, h.new⟩
end Go.Proofs.Ytcldbipipehedaa
