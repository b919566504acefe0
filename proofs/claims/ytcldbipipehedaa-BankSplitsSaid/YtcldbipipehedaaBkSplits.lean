/-
  voussoirlaw10.BankSplits: the walk.
-/
import Derived.Test.YtcldbipipehedaaBOp
import Derived.Test.YtcldbipipehedaaBkL
namespace Go.Proofs.Ytcldbipipehedaa
open Go.RowKit Go.ChangeMaps
theorem aB.frozen {w : World} {q : Nat} {x : A10} (h : aB w q x) (i : Nat) : w.frozen? ⟨q, i, none⟩ = false := frozen_blk h i
theorem aB.wcells {w : World} {q v : Nat} {x : A10} (h : aB w q (x.with v)) : w.cell? ⟨q, 0, none⟩ = some (.int .i64 x.what) ∧ w.cell? ⟨q, 1, none⟩ = some (.int .i64 x.fr) ∧ w.cell? ⟨q, 2, none⟩ = some (.int .i64 x.to) ∧ w.cell? ⟨q, 3, none⟩ = some (.int .i64 x.den) ∧ w.cell? ⟨q, 4, none⟩ = some (.int .u64 (v : Nat)) := h.cells
theorem aB_set {w : World} {q : Nat} {x : A10} (h : aB w q x) (v : Nat) : aB (w.setCell ⟨q, 4, none⟩ (.int .u64 (v : Nat))) q (x.with v) := by
  exact (heap_setCell_blk h 4 (.int .u64 (v : Nat))).trans (by simp [A10.with])
theorem Pr.storedA {w wx : World} {a b n : Nat} {s t : BkS} {Q : Nat} {x : A10} (h : Pr w wx a b n s t) (p : aB wx Q x) (hQ : w.heap.size ≤ Q) {W : World} (k : Keeps (fun k => k = Q) wx W) : Pr w W a b n s t := by
  obtain ⟨ma, sa, mb, sb, h1, h2, h3, h4⟩ := h
  have one : ∀ {b mb sb : Nat} {t : BkS}, Bk wx b mb sb n t → Bk W b mb sb n t := by
    intro b mb sb t h1
    refine h1.keepS k ?_ ?_ ?_
    · intro e
      have := h1.blk
      rw [show b = Q from e, show wx.heap[Q]? = _ from p] at this
      cases this
    · exact fun e => h1.mp.not_cells p e.symm
    · exact fun e => h1.su.not_cells p e.symm
  exact ⟨ma, sa, mb, sb, one h1, one h2, h3.then k (fun j hj => .inr (by rw [hj]; exact hQ)), h4⟩
set_option maxHeartbeats 16000000 in
set_option maxRecDepth 100000 in
theorem splits_walk (A : Option Addr) (len cap : Nat) (la : List A10) (x : A10) (n0 : Nat) (w : World)
    (hla : la.length = len) (h63 : len ≤ 9223372036854775807) (hA : A10At w A la) (hx : okA x) (hn64 : U64 n0) :
    Calls Try.prog 13 #[.slice A len cap, .agg #[.int .i64 x.what, .int .i64 x.fr, .int .i64 x.to, .int .i64 x.den, .int .u64 (x.n : Nat)], .int .u64 (n0 : Nat)] w fun e w' => e = .returned (.bool true) ∧ New w w' := by
  have n2 : New w (w.alloc (.cells #[.int .i64 x.what, .int .i64 x.fr, .int .i64 x.to, .int .i64 x.den, .int .u64 (x.n : Nat)] 69)) := (New.refl w).alloc _
  have a2 : aB (w.alloc (.cells #[.int .i64 x.what, .int .i64 x.fr, .int .i64 x.to, .int .i64 x.den, .int .u64 (x.n : Nat)] 69)) w.heap.size x := heap_alloc_new w _
  have hq2 : w.heap.size ≤ w.heap.size := Nat.le_refl _
  go_enter Try.func13, Try.ntmps13
  go_upto_region 1 with (fail)
  revert n2 a2 hq2
  generalize (w.alloc (.cells #[.int .i64 x.what, .int .i64 x.fr, .int .i64 x.to, .int .i64 x.den, .int .u64 (x.n : Nat)] 69)) = w2
  generalize hQ1 : w.heap.size = Q1
  intro n2 a2 hq2
  replace hq2 : w.heap.size ≤ Q1 := by rw [hQ1]; exact hq2
  clear hQ1
  go_wp2_with fail
  refine (awakeB_any _).mono ?_
  rintro e w3 ⟨rfl, k3⟩
  have a3 := a2.keep k3
  have n3 := n2.then k3 (fun _ h => h.elim)
  clear a2 n2 k3
  go_wp2_with fail
  refine (sgNewC n3).mono ?_
  rintro e w4 ⟨B, rfl, h4, k4⟩
  have a4 := a3.kc k4
  clear a3 n3 k4
  have s4 := sumI_empty
  generalize emptyB = s0 at *
  go_upto_block 0 with (fail)
  go_cut [] (fun wx => ∃ (n : Nat) (s : BkS), n ≤ 100 ∧ SumI s ∧ Sg w wx B n s ∧ aB wx Q1 x)
  case first =>
    go_wp2_with fail
    go_loopw [9] (fun i wr => ∃ (k n : Nat) (s : BkS), k ≤ len ∧ k ≤ 50 ∧ n ≤ 2 * k ∧ i = .int .i64 k ∧ SumI s ∧ Sg w wr B n s ∧ aB wr Q1 x)
      (fun i _ => 50 - (intOf i).toNat)
    case atStart => exact ⟨0, 0, s0, by omega, by omega, by omega, rfl, s4, h4, a4⟩
    case round =>
      clear h4 a4 s4
      obtain ⟨k, n, s, hk, hk50, hn, rfl, s7, h7, a7⟩ := hrel
      have hk0 : (0 : Int) ≤ (k : Int) := Int.natCast_nonneg _
      by_cases hlt : k < len
      · by_cases hlt2 : k < 50
        · obtain ⟨bA, oA, rfl, hbA, oy, c0, c1, c2, c3, c4⟩ := hA k la[k] (List.getElem?_eq_getElem (by omega))
          generalize la[k] = y at *
          have hk1 : (k : Int) < (len : Int) := by omega
          have nw := h7.new
          have d0 := (nw.cell (p := ⟨bA, oA + k * 5, none⟩) hbA (fun h => h)).trans c0
          have d1 := (nw.cell (p := ⟨bA, oA + k * 5 + 1, none⟩) hbA (fun h => h)).trans c1
          have d2 := (nw.cell (p := ⟨bA, oA + k * 5 + 2, none⟩) hbA (fun h => h)).trans c2
          have d3 := (nw.cell (p := ⟨bA, oA + k * 5 + 3, none⟩) hbA (fun h => h)).trans c3
          have d4 := (nw.cell (p := ⟨bA, oA + k * 5 + 4, none⟩) hbA (fun h => h)).trans c4
          go_wp2_with fail
          refine (h7.act (fun ma sa hb => does_any B ma sa n s y oy (by omega) _ hb)).mono ?_
          rintro e w8 ⟨rfl, h8, k8⟩
          have a8 := a7.kc k8
          go_wp2_with fail
          go_roundw
          case rel => exact ⟨k + 1, n + 2, _, by omega, by omega, by omega, by go_num, s7.does y, h8, a8⟩
          case measure => simp [intOf]; omega
        · go_wp2_with fail
          go_meet
          case rel => exact ⟨n, s, by omega, s7, h7, a7⟩
      · go_wp2_with fail
        go_meet
        case rel => exact ⟨n, s, by omega, s7, h7, a7⟩
  case rest =>
    clear h4 a4 s4 hA
    obtain ⟨n, s, hn, s7, h7, a7⟩ := hcut
    go_wp2_with fail
    refine (prCopy h7).mono ?_
    rintro e w10 ⟨b', rfl, h10, k10⟩
    have a10 := a7.kc k10
    clear h7 a7 k10
    have da := a10.cells
    obtain ⟨i0, i1, i2, i3, i4⟩ := hx
    obtain ⟨N, hN⟩ : ∃ N, N = max n0 1 := ⟨_, rfl⟩
    obtain ⟨V, hV⟩ : ∃ V, V = max x.n 1 := ⟨_, rfl⟩
    have XN : max (n0 : Int) 1 = (N : Int) := by rw [hN]; omega
    have XV : max (x.n : Int) 1 = (V : Int) := by rw [hV]; omega
    have uN : U64 N := by have := hn64.lt; show _ < _; omega
    have uV : U64 V := by have := i4.lt; show _ < _; omega
    have N1 : N ≠ 0 := by omega
    have V1 : V ≠ 0 := by omega
    have ltN := uN.lt
    have ltV := uV.lt
    clear hN hV hn64
    have g1 : IntKind.u64.wrap (18446744073709551615 - (N : Int)) = 18446744073709551615 - (N : Int) := IntWalk.u64_in _ ⟨by omega, by omega⟩
    have kS : Keeps (fun k => k = Q1) w10 (w10.setCell ⟨Q1, 4, none⟩ (.int .u64 (V : Nat))) := (Keeps.refl (fun k => k = Q1) w10).set1 4 _
    have h11 := h10.storedA a10 hq2 kS
    have fr10 := a10.frozen 4
    have a11 : aB (w10.setCell ⟨Q1, 4, none⟩ (.int .u64 (V : Nat))) Q1 (x.with V) := aB_set a10 V
    go_upto_region 14 with (fail)
    clear h10 a10 da kS fr10
    revert h11 a11
    generalize w10.setCell ⟨Q1, 4, none⟩ (.int .u64 (V : Nat)) = w11
    intro h11 a11
    have hap := fun hac => does_split s7 x V1 N1 hac
    have P1 := fun w => pickB_any x.what 6 w i0 (by omega) (by omega)
    have hk := pk_lt x.what 6 (by omega)
    have C1 := fun w => account_any x.fr i1 w
    have C2 := fun w => account_any x.to i2 w
    have hx1 : okA (x.with V) := ⟨i0, i1, i2, i3, uV⟩
    have hx2 : okA (x.with N) := ⟨i0, i1, i2, i3, uN⟩
    have a11d := a11.drew
    have h11d := h11.drew
    clear a11 h11
    generalize acL (pk x.fr 5) = fr at *
    generalize acL (pk x.to 5) = tw at *
    generalize pk x.what 6 = k at *
    by_cases hov : 18446744073709551615 < V + N
    · have e1 : decide (18446744073709551615 - (N : Int) < (V : Int)) = true := by simp; omega
      refine wp_region_held_drew (S := (fun w' => aB w' Q1 (x.with V))) (by kernel_rfl) ?_ (fun hHeld => ?_)
      · exact a11d
      refine wpAnyH_take (i := 0) (oi := ⟨some 50, _, _, _, _, _⟩) (v := ?_) rfl (by kernel_rfl) (by kernel_rfl) (by kernel_rfl) (fun _ _ _ h => h) (Or.inl ⟨by rfl, ?_⟩) (by assumption) ?_
      rotate_left
      · (intro wq hSw; (try dsimp only at hSw); go_simp; try with_reducible rfl)
      try simp only [Act.put, List.setIfInBounds_toArray, List.set_cons_zero, List.set_cons_succ]
      refine wpAnyH_take (i := 1) (oi := ⟨some 51, _, _, _, _, _⟩) (v := ?_) rfl (by kernel_rfl) (by kernel_rfl) (by kernel_rfl) (fun _ _ _ h => h) (Or.inl ⟨by rfl, ?_⟩) (by assumption) ?_
      rotate_left
      · (intro wq hSw; (try dsimp only at hSw); have d := hSw.wcells; go_simp; try with_reducible rfl)
      try simp only [Act.put, List.setIfInBounds_toArray, List.set_cons_zero, List.set_cons_succ]
      refine wpAnyH_take (i := 2) (oi := ⟨some 52, _, _, _, _, _⟩) (v := ?_) rfl (by kernel_rfl) (by kernel_rfl) (by kernel_rfl) (fun _ _ _ h => h) (Or.inl ⟨by rfl, ?_⟩) (by assumption) ?_
      rotate_left
      · (intro wq hSw; (try dsimp only at hSw); go_simp; try with_reducible rfl)
      try simp only [Act.put, List.setIfInBounds_toArray, List.set_cons_zero, List.set_cons_succ]
      refine wpAnyH_take (i := 3) (oi := ⟨some 53, _, _, _, _, _⟩) (v := ?_) rfl (by kernel_rfl) (by kernel_rfl) (by kernel_rfl) (fun _ _ _ h => h) (Or.inl ⟨by rfl, ?_⟩) (by assumption) ?_
      rotate_left
      · (intro wq hSw; (try dsimp only at hSw); go_simp; try with_reducible rfl)
      try simp only [Act.put, List.setIfInBounds_toArray, List.set_cons_zero, List.set_cons_succ]
      refine wpAnyH_take (i := 4) (oi := ⟨some 54, _, _, _, _, _⟩) (v := ?_) rfl (by kernel_rfl) (by kernel_rfl) (by kernel_rfl) (fun _ _ _ h => h) (Or.inl ⟨by rfl, ?_⟩) (by assumption) ?_
      rotate_left
      · (intro wq hSw; (try dsimp only at hSw); go_simp; try with_reducible rfl)
      try simp only [Act.put, List.setIfInBounds_toArray, List.set_cons_zero, List.set_cons_succ]
      refine wpAnyH_take (i := 5) (oi := ⟨some 55, _, _, _, _, _⟩) (v := ?_) rfl (by kernel_rfl) (by kernel_rfl) (by kernel_rfl) (fun _ _ _ h => h) (Or.inl ⟨by rfl, ?_⟩) (by assumption) ?_
      rotate_left
      · (intro wq hSw; (try dsimp only at hSw); go_simp; try with_reducible rfl)
      try simp only [Act.put, List.setIfInBounds_toArray, List.set_cons_zero, List.set_cons_succ]
      refine wpAnyH_take (i := 6) (oi := ⟨some 56, _, _, _, _, _⟩) (v := undef) rfl (by kernel_rfl) (by kernel_rfl) (by kernel_rfl) (fun _ _ _ h => h) (Or.inr ⟨by rfl, rfl⟩) (by assumption) ?_
      try simp only [Act.put, List.setIfInBounds_toArray, List.set_cons_zero, List.set_cons_succ]
      refine wpAnyH_take (i := 7) (oi := ⟨some 57, _, _, _, _, _⟩) (v := undef) rfl (by kernel_rfl) (by kernel_rfl) (by kernel_rfl) (fun _ _ _ h => h) (Or.inr ⟨by rfl, rfl⟩) (by assumption) ?_
      try simp only [Act.put, List.setIfInBounds_toArray, List.set_cons_zero, List.set_cons_succ]
      refine wpAnyH_take (i := 8) (oi := ⟨some 58, _, _, _, _, _⟩) (v := undef) rfl (by kernel_rfl) (by kernel_rfl) (by kernel_rfl) (fun _ _ _ h => h) (Or.inr ⟨by rfl, rfl⟩) (by assumption) ?_
      try simp only [Act.put, List.setIfInBounds_toArray, List.set_cons_zero, List.set_cons_succ]
      refine wpAnyH_take (i := 9) (oi := ⟨some 59, _, _, _, _, _⟩) (v := undef) rfl (by kernel_rfl) (by kernel_rfl) (by kernel_rfl) (fun _ _ _ h => h) (Or.inr ⟨by rfl, rfl⟩) (by assumption) ?_
      try simp only [Act.put, List.setIfInBounds_toArray, List.set_cons_zero, List.set_cons_succ]
      refine wpAnyH_take (i := 10) (oi := ⟨some 60, _, _, _, _, _⟩) (v := undef) rfl (by kernel_rfl) (by kernel_rfl) (by kernel_rfl) (fun _ _ _ h => h) (Or.inr ⟨by rfl, rfl⟩) (by assumption) ?_
      try simp only [Act.put, List.setIfInBounds_toArray, List.set_cons_zero, List.set_cons_succ]
      refine wpAnyH_take (i := 11) (oi := ⟨some 61, _, _, _, _, _⟩) (v := undef) rfl (by kernel_rfl) (by kernel_rfl) (by kernel_rfl) (fun _ _ _ h => h) (Or.inr ⟨by rfl, rfl⟩) (by assumption) ?_
      try simp only [Act.put, List.setIfInBounds_toArray, List.set_cons_zero, List.set_cons_succ]
      refine wpAnyH_take (i := 12) (oi := ⟨some 62, _, _, _, _, _⟩) (v := undef) rfl (by kernel_rfl) (by kernel_rfl) (by kernel_rfl) (fun _ _ _ h => h) (Or.inr ⟨by rfl, rfl⟩) (by assumption) ?_
      try simp only [Act.put, List.setIfInBounds_toArray, List.set_cons_zero, List.set_cons_succ]
      refine wpAnyH_take (i := 13) (oi := ⟨some 63, _, _, _, _, _⟩) (v := undef) rfl (by kernel_rfl) (by kernel_rfl) (by kernel_rfl) (fun _ _ _ h => h) (Or.inr ⟨by rfl, rfl⟩) (by assumption) ?_
      try simp only [Act.put, List.setIfInBounds_toArray, List.set_cons_zero, List.set_cons_succ]
      refine wpAnyH_take (i := 14) (oi := ⟨some 64, _, _, _, _, _⟩) (v := undef) rfl (by kernel_rfl) (by kernel_rfl) (by kernel_rfl) (fun _ _ _ h => h) (Or.inr ⟨by rfl, rfl⟩) (by assumption) ?_
      try simp only [Act.put, List.setIfInBounds_toArray, List.set_cons_zero, List.set_cons_succ]
      refine wpAnyH_take (i := 15) (oi := ⟨some 65, _, _, _, _, _⟩) (v := undef) rfl (by kernel_rfl) (by kernel_rfl) (by kernel_rfl) (fun _ _ _ h => h) (Or.inr ⟨by rfl, rfl⟩) (by assumption) ?_
      try simp only [Act.put, List.setIfInBounds_toArray, List.set_cons_zero, List.set_cons_succ]
      refine wpAnyH_take (i := 16) (oi := ⟨some 66, _, _, _, _, _⟩) (v := undef) rfl (by kernel_rfl) (by kernel_rfl) (by kernel_rfl) (fun _ _ _ h => h) (Or.inr ⟨by rfl, rfl⟩) (by assumption) ?_
      try simp only [Act.put, List.setIfInBounds_toArray, List.set_cons_zero, List.set_cons_succ]
      refine wpAnyH_take (i := 17) (oi := ⟨some 67, _, _, _, _, _⟩) (v := undef) rfl (by kernel_rfl) (by kernel_rfl) (by kernel_rfl) (fun _ _ _ h => h) (Or.inr ⟨by rfl, rfl⟩) (by assumption) ?_
      try simp only [Act.put, List.setIfInBounds_toArray, List.set_cons_zero, List.set_cons_succ]
      refine wpAnyH_take (i := 18) (oi := ⟨some 68, _, _, _, _, _⟩) (v := undef) rfl (by kernel_rfl) (by kernel_rfl) (by kernel_rfl) (fun _ _ _ h => h) (Or.inr ⟨by rfl, rfl⟩) (by assumption) ?_
      try simp only [Act.put, List.setIfInBounds_toArray, List.set_cons_zero, List.set_cons_succ]
      refine wpAnyH_take (i := 19) (oi := ⟨some 69, _, _, _, _, _⟩) (v := ?_) rfl (by kernel_rfl) (by kernel_rfl) (by kernel_rfl) (fun _ _ _ h => h) (Or.inl ⟨by rfl, ?_⟩) (by assumption) ?_
      rotate_left
      · (intro wq hSw; (try dsimp only at hSw); go_simp; try with_reducible rfl)
      try simp only [Act.put, List.setIfInBounds_toArray, List.set_cons_zero, List.set_cons_succ]
      refine wpAnyH_done (by kernel_rfl) ?_ _
      go_wp2_with fail
      go_ret
      exact ⟨rfl, h11d.new⟩
    have e1 : decide (18446744073709551615 - (N : Int) < (V : Int)) = false := by simp; omega
    obtain ⟨U, hU⟩ : ∃ U, U = V + N := ⟨_, rfl⟩
    have g2 : IntKind.u64.wrap ((V : Int) + (N : Int)) = (U : Int) := by rw [IntWalk.u64_in _ ⟨by omega, by omega⟩, hU]; omega
    have hx3 : okA (x.with U) := ⟨i0, i1, i2, i3, by show U < _; omega⟩
    rw [← hU] at hap
    clear hU XN XV uN uV N1 V1
    by_cases hk2 : k ≤ 2
    · have e2 : decide (2 < (k : Int)) = false := by simp; omega
      replace hap := hap (by omega)
      refine wp_region_held_drew (S := (fun w' => aB w' Q1 (x.with V))) (by kernel_rfl) ?_ (fun hHeld => ?_)
      · exact a11d
      refine wpAnyH_take (i := 0) (oi := ⟨some 50, _, _, _, _, _⟩) (v := ?_) rfl (by kernel_rfl) (by kernel_rfl) (by kernel_rfl) (fun _ _ _ h => h) (Or.inl ⟨by rfl, ?_⟩) (by assumption) ?_
      rotate_left
      · (intro wq hSw; (try dsimp only at hSw); go_simp; try with_reducible rfl)
      try simp only [Act.put, List.setIfInBounds_toArray, List.set_cons_zero, List.set_cons_succ]
      refine wpAnyH_take (i := 1) (oi := ⟨some 51, _, _, _, _, _⟩) (v := ?_) rfl (by kernel_rfl) (by kernel_rfl) (by kernel_rfl) (fun _ _ _ h => h) (Or.inl ⟨by rfl, ?_⟩) (by assumption) ?_
      rotate_left
      · (intro wq hSw; (try dsimp only at hSw); have d := hSw.wcells; go_simp; try with_reducible rfl)
      try simp only [Act.put, List.setIfInBounds_toArray, List.set_cons_zero, List.set_cons_succ]
      refine wpAnyH_take (i := 2) (oi := ⟨some 52, _, _, _, _, _⟩) (v := ?_) rfl (by kernel_rfl) (by kernel_rfl) (by kernel_rfl) (fun _ _ _ h => h) (Or.inl ⟨by rfl, ?_⟩) (by assumption) ?_
      rotate_left
      · (intro wq hSw; (try dsimp only at hSw); go_simp; try with_reducible rfl)
      try simp only [Act.put, List.setIfInBounds_toArray, List.set_cons_zero, List.set_cons_succ]
      refine wpAnyH_take (i := 3) (oi := ⟨some 53, _, _, _, _, _⟩) (v := ?_) rfl (by kernel_rfl) (by kernel_rfl) (by kernel_rfl) (fun _ _ _ h => h) (Or.inl ⟨by rfl, ?_⟩) (by assumption) ?_
      rotate_left
      · (intro wq hSw; (try dsimp only at hSw); go_simp; try with_reducible rfl)
      try simp only [Act.put, List.setIfInBounds_toArray, List.set_cons_zero, List.set_cons_succ]
      refine wpAnyH_take (i := 4) (oi := ⟨some 54, _, _, _, _, _⟩) (v := ?_) rfl (by kernel_rfl) (by kernel_rfl) (by kernel_rfl) (fun _ _ _ h => h) (Or.inl ⟨by rfl, ?_⟩) (by assumption) ?_
      rotate_left
      · (intro wq hSw; (try dsimp only at hSw); go_simp; try with_reducible rfl)
      try simp only [Act.put, List.setIfInBounds_toArray, List.set_cons_zero, List.set_cons_succ]
      refine wpAnyH_take (i := 5) (oi := ⟨some 55, _, _, _, _, _⟩) (v := ?_) rfl (by kernel_rfl) (by kernel_rfl) (by kernel_rfl) (fun _ _ _ h => h) (Or.inl ⟨by rfl, ?_⟩) (by assumption) ?_
      rotate_left
      · (intro wq hSw; (try dsimp only at hSw); go_simp; try with_reducible rfl)
      try simp only [Act.put, List.setIfInBounds_toArray, List.set_cons_zero, List.set_cons_succ]
      refine wpAnyH_take (i := 6) (oi := ⟨some 56, _, _, _, _, _⟩) (v := ?_) rfl (by kernel_rfl) (by kernel_rfl) (by kernel_rfl) (fun _ _ _ h => h) (Or.inl ⟨by rfl, ?_⟩) (by assumption) ?_
      rotate_left
      · (intro wq hSw; (try dsimp only at hSw); go_simp; try with_reducible rfl)
      try simp only [Act.put, List.setIfInBounds_toArray, List.set_cons_zero, List.set_cons_succ]
      refine wpAnyH_take (i := 7) (oi := ⟨some 57, _, _, _, _, _⟩) (v := ?_) rfl (by kernel_rfl) (by kernel_rfl) (by kernel_rfl) (fun _ _ _ h => h) (Or.inl ⟨by rfl, ?_⟩) (by assumption) ?_
      rotate_left
      · (intro wq hSw; (try dsimp only at hSw); have d := hSw.wcells; go_simp; try with_reducible rfl)
      try simp only [Act.put, List.setIfInBounds_toArray, List.set_cons_zero, List.set_cons_succ]
      refine wpAnyH_ready (rs := [8]) (by kernel_rfl) (by simp) ?_
      refine AllReadyH.cons (o := ⟨some 58, _, _, _, _, _⟩) rfl (fun K hK => ?_) AllReadyH.nil
      go_simp
      refine (P1 _).mono ?_; rintro e z8 ⟨rfl, rfl⟩
      refine hK.out _ _ hHeld (fun hHeld => ?_)
      clear hK K
      try simp only [Act.put, List.setIfInBounds_toArray, List.set_cons_zero, List.set_cons_succ]
      refine wpAnyH_take (i := 9) (oi := ⟨some 59, _, _, _, _, _⟩) (v := ?_) rfl (by kernel_rfl) (by kernel_rfl) (by kernel_rfl) (fun _ _ _ h => h) (Or.inl ⟨by rfl, ?_⟩) (by assumption) ?_
      rotate_left
      · (intro wq hSw; (try dsimp only at hSw); go_simp; try with_reducible rfl)
      try simp only [Act.put, List.setIfInBounds_toArray, List.set_cons_zero, List.set_cons_succ]
      refine wpAnyH_take (i := 10) (oi := ⟨some 60, _, _, _, _, _⟩) (v := ?_) rfl (by kernel_rfl) (by kernel_rfl) (by kernel_rfl) (fun _ _ _ h => h) (Or.inl ⟨by rfl, ?_⟩) (by assumption) ?_
      rotate_left
      · (intro wq hSw; (try dsimp only at hSw); go_simp; try with_reducible rfl)
      try simp only [Act.put, List.setIfInBounds_toArray, List.set_cons_zero, List.set_cons_succ]
      refine wpAnyH_take (i := 11) (oi := ⟨some 61, _, _, _, _, _⟩) (v := undef) rfl (by kernel_rfl) (by kernel_rfl) (by kernel_rfl) (fun _ _ _ h => h) (Or.inr ⟨by rfl, rfl⟩) (by assumption) ?_
      try simp only [Act.put, List.setIfInBounds_toArray, List.set_cons_zero, List.set_cons_succ]
      refine wpAnyH_take (i := 12) (oi := ⟨some 62, _, _, _, _, _⟩) (v := undef) rfl (by kernel_rfl) (by kernel_rfl) (by kernel_rfl) (fun _ _ _ h => h) (Or.inr ⟨by rfl, rfl⟩) (by assumption) ?_
      try simp only [Act.put, List.setIfInBounds_toArray, List.set_cons_zero, List.set_cons_succ]
      refine wpAnyH_take (i := 13) (oi := ⟨some 63, _, _, _, _, _⟩) (v := undef) rfl (by kernel_rfl) (by kernel_rfl) (by kernel_rfl) (fun _ _ _ h => h) (Or.inr ⟨by rfl, rfl⟩) (by assumption) ?_
      try simp only [Act.put, List.setIfInBounds_toArray, List.set_cons_zero, List.set_cons_succ]
      refine wpAnyH_take (i := 14) (oi := ⟨some 64, _, _, _, _, _⟩) (v := undef) rfl (by kernel_rfl) (by kernel_rfl) (by kernel_rfl) (fun _ _ _ h => h) (Or.inr ⟨by rfl, rfl⟩) (by assumption) ?_
      try simp only [Act.put, List.setIfInBounds_toArray, List.set_cons_zero, List.set_cons_succ]
      refine wpAnyH_take (i := 15) (oi := ⟨some 65, _, _, _, _, _⟩) (v := undef) rfl (by kernel_rfl) (by kernel_rfl) (by kernel_rfl) (fun _ _ _ h => h) (Or.inr ⟨by rfl, rfl⟩) (by assumption) ?_
      try simp only [Act.put, List.setIfInBounds_toArray, List.set_cons_zero, List.set_cons_succ]
      refine wpAnyH_take (i := 16) (oi := ⟨some 66, _, _, _, _, _⟩) (v := undef) rfl (by kernel_rfl) (by kernel_rfl) (by kernel_rfl) (fun _ _ _ h => h) (Or.inr ⟨by rfl, rfl⟩) (by assumption) ?_
      try simp only [Act.put, List.setIfInBounds_toArray, List.set_cons_zero, List.set_cons_succ]
      refine wpAnyH_take (i := 17) (oi := ⟨some 67, _, _, _, _, _⟩) (v := undef) rfl (by kernel_rfl) (by kernel_rfl) (by kernel_rfl) (fun _ _ _ h => h) (Or.inr ⟨by rfl, rfl⟩) (by assumption) ?_
      try simp only [Act.put, List.setIfInBounds_toArray, List.set_cons_zero, List.set_cons_succ]
      refine wpAnyH_take (i := 18) (oi := ⟨some 68, _, _, _, _, _⟩) (v := ?_) rfl (by kernel_rfl) (by kernel_rfl) (by kernel_rfl) (fun _ _ _ h => h) (Or.inl ⟨by rfl, ?_⟩) (by assumption) ?_
      rotate_left
      · (intro wq hSw; (try dsimp only at hSw); go_simp; try with_reducible rfl)
      try simp only [Act.put, List.setIfInBounds_toArray, List.set_cons_zero, List.set_cons_succ]
      refine wpAnyH_take (i := 19) (oi := ⟨some 69, _, _, _, _, _⟩) (v := ?_) rfl (by kernel_rfl) (by kernel_rfl) (by kernel_rfl) (fun _ _ _ h => h) (Or.inl ⟨by rfl, ?_⟩) (by assumption) ?_
      rotate_left
      · (intro wq hSw; (try dsimp only at hSw); go_simp; try with_reducible rfl)
      try simp only [Act.put, List.setIfInBounds_toArray, List.set_cons_zero, List.set_cons_succ]
      refine wpAnyH_done (by kernel_rfl) ?_ _
      have h20 := h11d
      have a20 := hHeld
      clear hHeld a11d h11d C1 C2 P1 hk e1 e2 hov g1
      revert h20 a20
      generalize w11.drew = w20
      intro h20 a20
      have d20 := a20.wcells
      have hz20 := h20.new.size
      have hqq : Q1 < w20.heap.size := (Array.getElem?_eq_some_iff.1 a20).1
      have k21 := (New.refl w20).alloc (.cells #[.int .i64 x.what, .int .i64 x.fr, .int .i64 x.to, .int .i64 x.den, .int .u64 (V : Nat)] 69)
      have y21 : aB (w20.alloc (.cells #[.int .i64 x.what, .int .i64 x.fr, .int .i64 x.to, .int .i64 x.den, .int .u64 (V : Nat)] 69)) w20.heap.size (x.with V) := heap_alloc_new w20 _
      have h21 := h20.keep k21
      have a21 := a20.keep k21
      go_upto_region 17 with (fail)
      clear h20 a20 d20 k21
      revert hz20 hqq y21 h21 a21
      generalize w20.alloc _ = w21
      generalize w20.heap.size = q1
      intro hz20 hqq y21 h21 a21
      have f21 := y21.frozen 4
      have dy21 := y21.wcells
      have kS1 : Keeps (fun k => k = q1) w21 (w21.setCell ⟨q1, 4, none⟩ (.int .u64 (N : Nat))) := (Keeps.refl (fun k => k = q1) w21).set1 4 _
      have h22 := h21.storedA y21 hz20 kS1
      have y22 : aB (w21.setCell ⟨q1, 4, none⟩ (.int .u64 (N : Nat))) q1 (x.with N) := aB_set y21 N
      have a22 := a21.keepS kS1 (show ¬ Q1 = q1 by omega)
      go_upto_region 18 with (fail)
      clear h21 a21 y21 f21 kS1 hz20 dy21
      revert h22 y22 a22
      generalize w21.setCell ⟨q1, 4, none⟩ (.int .u64 (N : Nat)) = w22
      intro h22 y22 a22
      have d22 := a22.wcells
      have hz22 := h22.new.size
      have hqx : Q1 < w22.heap.size := (Array.getElem?_eq_some_iff.1 a22).1
      have hqy : q1 < w22.heap.size := (Array.getElem?_eq_some_iff.1 y22).1
      have k23 := (New.refl w22).alloc (.cells #[.int .i64 x.what, .int .i64 x.fr, .int .i64 x.to, .int .i64 x.den, .int .u64 (V : Nat)] 69)
      have z23 : aB (w22.alloc (.cells #[.int .i64 x.what, .int .i64 x.fr, .int .i64 x.to, .int .i64 x.den, .int .u64 (V : Nat)] 69)) w22.heap.size (x.with V) := heap_alloc_new w22 _
      have h23 := h22.keep k23
      have a23 := a22.keep k23
      have y23 := y22.keep k23
      go_upto_region 19 with (fail)
      clear h22 a22 y22 d22 k23
      revert hz22 hqx hqy z23 h23 a23 y23
      generalize w22.alloc _ = w23
      generalize w22.heap.size = q2
      intro hz22 hqx hqy z23 h23 a23 y23
      have d23 := a23.wcells
      have f23 := z23.frozen 4
      have dz23 := z23.wcells
      have kS2 : Keeps (fun k => k = q2) w23 (w23.setCell ⟨q2, 4, none⟩ (.int .u64 (U : Nat))) := (Keeps.refl (fun k => k = q2) w23).set1 4 _
      have h24 := h23.storedA z23 hz22 kS2
      have z24 : aB (w23.setCell ⟨q2, 4, none⟩ (.int .u64 (U : Nat))) q2 (x.with U) := aB_set z23 U
      have a24 := a23.keepS kS2 (show ¬ Q1 = q2 by omega)
      have y24 := y23.keepS kS2 (show ¬ q1 = q2 by omega)
      go_upto_region 20 with (fail)
      clear h23 a23 y23 z23 d23 f23 kS2 dz23 hz22 hqx hqy hqq g2
      revert h24 z24 a24 y24
      generalize w23.setCell ⟨q2, 4, none⟩ (.int .u64 (U : Nat)) = w24
      intro h24 z24 a24 y24
      have dz := z24.wcells
      have D1 := h24.actA (fun ma sa hb => does_any B ma sa n s (x.with U) hx3 (by omega) _ hb)
      have D2 : ∀ z (g : Pr w z B b' (n + 2) (dsS s (x.with U)) s), _ := fun z g => g.actB (fun mb sb hb => does_any b' mb sb (n + 2) s (x.with V) hx1 (by omega) z hb)
      have D3 : ∀ z (g : Pr w z B b' (n + 2 + 2) (dsS s (x.with U)) (dsS s (x.with V))), _ := fun z g => g.actB (fun mb sb hb => does_any b' mb sb (n + 2 + 2) (dsS s (x.with V)) (x.with N) hx2 (by omega) z hb)
      obtain ⟨hi, hs⟩ := hap
      clear h24 hx1 hx2 hx3 i0 i1 i2 i3 i4
      generalize dsE (dsS s (x.with V)) (x.with N) = G at *
      generalize dsS (dsS s (x.with V)) (x.with N) = T2 at *
      generalize dsE s (x.with U) = E at *
      generalize dsS s (x.with U) = R at *
      generalize dsE s (x.with V) = F at *
      generalize dsS s (x.with V) = T at *
      go_wp2_with fail
      refine D1.mono ?_
      rintro e w25 ⟨rfl, h25, k25⟩
      have a25 := a24.kc k25
      have y25 := y24.kc k25
      clear D1 dz z24 a24 y24 k25
      have dx := a25.wcells
      go_wp2_with fail
      refine (D2 _ h25).mono ?_
      rintro e w26 ⟨rfl, h26, k26⟩
      have y26 := y25.kc k26
      clear D2 dx h25 a25 y25 k26
      have dy := y26.wcells
      by_cases hE : E = 0
      · subst hE
        obtain ⟨rfl, rfl⟩ := hi.1 rfl
        obtain rfl := hs rfl
        clear hi hs
        go_wp2_with fail
        refine (D3 _ h26).mono ?_
        rintro e w27 ⟨rfl, h27, -⟩
        clear D3 dy y26 h26
        go_wp2_with fail
        refine (same_any w B b' (n + 2 + 2 + 2) R (by omega) _ (h27.fst) h27.snd).mono ?_
        rintro e w28 ⟨rfl, y28⟩
        go_wp2_with fail
        go_ret
        exact ⟨rfl, h27.new.then y28 (fun _ h => h.elim)⟩
      · have e5 : (E == 0) = false := by simpa using hE
        have e6 : (E != 0) = true := by simpa using hE
        by_cases hF : F = 0
        · subst hF
          have hG : ¬ G = 0 := fun hg => hE (hi.2 ⟨rfl, hg⟩)
          have e7 : (G == 0) = false := by simpa using hG
          clear hi hs hE hG
          go_wp2_with fail
          refine (D3 _ h26).mono ?_
          rintro e w27 ⟨rfl, h27, -⟩
          clear D3 dy y26 h26
          go_wp2_with fail
          go_ret
          exact ⟨rfl, h27.new⟩
        · have e7 : (F == 0) = false := by simpa using hF
          clear hi hs hE hF
          go_wp2_with fail
          go_ret
          exact ⟨rfl, h26.new⟩
    · have e2 : decide (2 < (k : Int)) = true := by simp; omega
      by_cases hac : fr = tw
      · subst hac
        refine wp_region_held_drew (S := (fun w' => aB w' Q1 (x.with V))) (by kernel_rfl) ?_ (fun hHeld => ?_)
        · exact a11d
        refine wpAnyH_take (i := 0) (oi := ⟨some 50, _, _, _, _, _⟩) (v := ?_) rfl (by kernel_rfl) (by kernel_rfl) (by kernel_rfl) (fun _ _ _ h => h) (Or.inl ⟨by rfl, ?_⟩) (by assumption) ?_
        rotate_left
        · (intro wq hSw; (try dsimp only at hSw); go_simp; try with_reducible rfl)
        try simp only [Act.put, List.setIfInBounds_toArray, List.set_cons_zero, List.set_cons_succ]
        refine wpAnyH_take (i := 1) (oi := ⟨some 51, _, _, _, _, _⟩) (v := ?_) rfl (by kernel_rfl) (by kernel_rfl) (by kernel_rfl) (fun _ _ _ h => h) (Or.inl ⟨by rfl, ?_⟩) (by assumption) ?_
        rotate_left
        · (intro wq hSw; (try dsimp only at hSw); have d := hSw.wcells; go_simp; try with_reducible rfl)
        try simp only [Act.put, List.setIfInBounds_toArray, List.set_cons_zero, List.set_cons_succ]
        refine wpAnyH_take (i := 2) (oi := ⟨some 52, _, _, _, _, _⟩) (v := ?_) rfl (by kernel_rfl) (by kernel_rfl) (by kernel_rfl) (fun _ _ _ h => h) (Or.inl ⟨by rfl, ?_⟩) (by assumption) ?_
        rotate_left
        · (intro wq hSw; (try dsimp only at hSw); go_simp; try with_reducible rfl)
        try simp only [Act.put, List.setIfInBounds_toArray, List.set_cons_zero, List.set_cons_succ]
        refine wpAnyH_take (i := 3) (oi := ⟨some 53, _, _, _, _, _⟩) (v := ?_) rfl (by kernel_rfl) (by kernel_rfl) (by kernel_rfl) (fun _ _ _ h => h) (Or.inl ⟨by rfl, ?_⟩) (by assumption) ?_
        rotate_left
        · (intro wq hSw; (try dsimp only at hSw); go_simp; try with_reducible rfl)
        try simp only [Act.put, List.setIfInBounds_toArray, List.set_cons_zero, List.set_cons_succ]
        refine wpAnyH_take (i := 4) (oi := ⟨some 54, _, _, _, _, _⟩) (v := ?_) rfl (by kernel_rfl) (by kernel_rfl) (by kernel_rfl) (fun _ _ _ h => h) (Or.inl ⟨by rfl, ?_⟩) (by assumption) ?_
        rotate_left
        · (intro wq hSw; (try dsimp only at hSw); go_simp; try with_reducible rfl)
        try simp only [Act.put, List.setIfInBounds_toArray, List.set_cons_zero, List.set_cons_succ]
        refine wpAnyH_take (i := 5) (oi := ⟨some 55, _, _, _, _, _⟩) (v := ?_) rfl (by kernel_rfl) (by kernel_rfl) (by kernel_rfl) (fun _ _ _ h => h) (Or.inl ⟨by rfl, ?_⟩) (by assumption) ?_
        rotate_left
        · (intro wq hSw; (try dsimp only at hSw); go_simp; try with_reducible rfl)
        try simp only [Act.put, List.setIfInBounds_toArray, List.set_cons_zero, List.set_cons_succ]
        refine wpAnyH_take (i := 6) (oi := ⟨some 56, _, _, _, _, _⟩) (v := ?_) rfl (by kernel_rfl) (by kernel_rfl) (by kernel_rfl) (fun _ _ _ h => h) (Or.inl ⟨by rfl, ?_⟩) (by assumption) ?_
        rotate_left
        · (intro wq hSw; (try dsimp only at hSw); go_simp; try with_reducible rfl)
        try simp only [Act.put, List.setIfInBounds_toArray, List.set_cons_zero, List.set_cons_succ]
        refine wpAnyH_take (i := 7) (oi := ⟨some 57, _, _, _, _, _⟩) (v := ?_) rfl (by kernel_rfl) (by kernel_rfl) (by kernel_rfl) (fun _ _ _ h => h) (Or.inl ⟨by rfl, ?_⟩) (by assumption) ?_
        rotate_left
        · (intro wq hSw; (try dsimp only at hSw); have d := hSw.wcells; go_simp; try with_reducible rfl)
        try simp only [Act.put, List.setIfInBounds_toArray, List.set_cons_zero, List.set_cons_succ]
        refine wpAnyH_ready (rs := [8]) (by kernel_rfl) (by simp) ?_
        refine AllReadyH.cons (o := ⟨some 58, _, _, _, _, _⟩) rfl (fun K hK => ?_) AllReadyH.nil
        go_simp
        refine (P1 _).mono ?_; rintro e z8 ⟨rfl, rfl⟩
        refine hK.out _ _ hHeld (fun hHeld => ?_)
        clear hK K
        try simp only [Act.put, List.setIfInBounds_toArray, List.set_cons_zero, List.set_cons_succ]
        refine wpAnyH_take (i := 9) (oi := ⟨some 59, _, _, _, _, _⟩) (v := ?_) rfl (by kernel_rfl) (by kernel_rfl) (by kernel_rfl) (fun _ _ _ h => h) (Or.inl ⟨by rfl, ?_⟩) (by assumption) ?_
        rotate_left
        · (intro wq hSw; (try dsimp only at hSw); go_simp; try with_reducible rfl)
        try simp only [Act.put, List.setIfInBounds_toArray, List.set_cons_zero, List.set_cons_succ]
        refine wpAnyH_take (i := 10) (oi := ⟨some 60, _, _, _, _, _⟩) (v := ?_) rfl (by kernel_rfl) (by kernel_rfl) (by kernel_rfl) (fun _ _ _ h => h) (Or.inl ⟨by rfl, ?_⟩) (by assumption) ?_
        rotate_left
        · (intro wq hSw; (try dsimp only at hSw); go_simp; try with_reducible rfl)
        try simp only [Act.put, List.setIfInBounds_toArray, List.set_cons_zero, List.set_cons_succ]
        refine wpAnyH_take (i := 11) (oi := ⟨some 61, _, _, _, _, _⟩) (v := ?_) rfl (by kernel_rfl) (by kernel_rfl) (by kernel_rfl) (fun _ _ _ h => h) (Or.inl ⟨by rfl, ?_⟩) (by assumption) ?_
        rotate_left
        · (intro wq hSw; (try dsimp only at hSw); go_simp; try with_reducible rfl)
        try simp only [Act.put, List.setIfInBounds_toArray, List.set_cons_zero, List.set_cons_succ]
        refine wpAnyH_take (i := 12) (oi := ⟨some 62, _, _, _, _, _⟩) (v := ?_) rfl (by kernel_rfl) (by kernel_rfl) (by kernel_rfl) (fun _ _ _ h => h) (Or.inl ⟨by rfl, ?_⟩) (by assumption) ?_
        rotate_left
        · (intro wq hSw; (try dsimp only at hSw); have d := hSw.wcells; go_simp; try with_reducible rfl)
        try simp only [Act.put, List.setIfInBounds_toArray, List.set_cons_zero, List.set_cons_succ]
        refine wpAnyH_take (i := 14) (oi := ⟨some 64, _, _, _, _, _⟩) (v := ?_) rfl (by kernel_rfl) (by kernel_rfl) (by kernel_rfl) (fun _ _ _ h => h) (Or.inl ⟨by rfl, ?_⟩) (by assumption) ?_
        rotate_left
        · (intro wq hSw; (try dsimp only at hSw); go_simp; try with_reducible rfl)
        try simp only [Act.put, List.setIfInBounds_toArray, List.set_cons_zero, List.set_cons_succ]
        refine wpAnyH_take (i := 15) (oi := ⟨some 65, _, _, _, _, _⟩) (v := ?_) rfl (by kernel_rfl) (by kernel_rfl) (by kernel_rfl) (fun _ _ _ h => h) (Or.inl ⟨by rfl, ?_⟩) (by assumption) ?_
        rotate_left
        · (intro wq hSw; (try dsimp only at hSw); have d := hSw.wcells; go_simp; try with_reducible rfl)
        try simp only [Act.put, List.setIfInBounds_toArray, List.set_cons_zero, List.set_cons_succ]
        refine wpAnyH_ready (rs := [13]) (by kernel_rfl) (by simp) ?_
        refine AllReadyH.cons (o := ⟨some 63, _, _, _, _, _⟩) rfl (fun K hK => ?_) AllReadyH.nil
        go_simp
        refine (C1 _).mono ?_; rintro e z13 ⟨rfl, y13⟩; have g13 := h11d.keep y13
        refine hK.out _ _ (hHeld.keep y13) (fun hHeld => ?_)
        clear hK K
        try simp only [Act.put, List.setIfInBounds_toArray, List.set_cons_zero, List.set_cons_succ]
        refine wpAnyH_ready (rs := [16]) (by kernel_rfl) (by simp) ?_
        refine AllReadyH.cons (o := ⟨some 66, _, _, _, _, _⟩) rfl (fun K hK => ?_) AllReadyH.nil
        go_simp
        refine (C2 _).mono ?_; rintro e z16 ⟨rfl, y16⟩; have g16 := g13.keep y16
        refine hK.out _ _ (hHeld.keep y16) (fun hHeld => ?_)
        clear hK K
        try simp only [Act.put, List.setIfInBounds_toArray, List.set_cons_zero, List.set_cons_succ]
        refine wpAnyH_take (i := 17) (oi := ⟨some 67, _, _, _, _, _⟩) (v := ?_) rfl (by kernel_rfl) (by kernel_rfl) (by kernel_rfl) (fun _ _ _ h => h) (Or.inl ⟨by rfl, ?_⟩) (by assumption) ?_
        rotate_left
        · (intro wq hSw; (try dsimp only at hSw); go_simp; try with_reducible rfl)
        try simp only [Act.put, List.setIfInBounds_toArray, List.set_cons_zero, List.set_cons_succ]
        refine wpAnyH_take (i := 18) (oi := ⟨some 68, _, _, _, _, _⟩) (v := ?_) rfl (by kernel_rfl) (by kernel_rfl) (by kernel_rfl) (fun _ _ _ h => h) (Or.inl ⟨by rfl, ?_⟩) (by assumption) ?_
        rotate_left
        · (intro wq hSw; (try dsimp only at hSw); go_simp; try with_reducible rfl)
        try simp only [Act.put, List.setIfInBounds_toArray, List.set_cons_zero, List.set_cons_succ]
        refine wpAnyH_take (i := 19) (oi := ⟨some 69, _, _, _, _, _⟩) (v := ?_) rfl (by kernel_rfl) (by kernel_rfl) (by kernel_rfl) (fun _ _ _ h => h) (Or.inl ⟨by rfl, ?_⟩) (by assumption) ?_
        rotate_left
        · (intro wq hSw; (try dsimp only at hSw); go_simp; try with_reducible rfl)
        try simp only [Act.put, List.setIfInBounds_toArray, List.set_cons_zero, List.set_cons_succ]
        refine wpAnyH_done (by kernel_rfl) ?_ _
        go_wp2_with fail
        go_ret
        exact ⟨rfl, g16.new⟩
      · have e3 : (fr == tw) = false := by simpa using hac
        replace hap := hap (fun _ => hac)
        refine wp_region_held_drew (S := (fun w' => aB w' Q1 (x.with V))) (by kernel_rfl) ?_ (fun hHeld => ?_)
        · exact a11d
        refine wpAnyH_take (i := 0) (oi := ⟨some 50, _, _, _, _, _⟩) (v := ?_) rfl (by kernel_rfl) (by kernel_rfl) (by kernel_rfl) (fun _ _ _ h => h) (Or.inl ⟨by rfl, ?_⟩) (by assumption) ?_
        rotate_left
        · (intro wq hSw; (try dsimp only at hSw); go_simp; try with_reducible rfl)
        try simp only [Act.put, List.setIfInBounds_toArray, List.set_cons_zero, List.set_cons_succ]
        refine wpAnyH_take (i := 1) (oi := ⟨some 51, _, _, _, _, _⟩) (v := ?_) rfl (by kernel_rfl) (by kernel_rfl) (by kernel_rfl) (fun _ _ _ h => h) (Or.inl ⟨by rfl, ?_⟩) (by assumption) ?_
        rotate_left
        · (intro wq hSw; (try dsimp only at hSw); have d := hSw.wcells; go_simp; try with_reducible rfl)
        try simp only [Act.put, List.setIfInBounds_toArray, List.set_cons_zero, List.set_cons_succ]
        refine wpAnyH_take (i := 2) (oi := ⟨some 52, _, _, _, _, _⟩) (v := ?_) rfl (by kernel_rfl) (by kernel_rfl) (by kernel_rfl) (fun _ _ _ h => h) (Or.inl ⟨by rfl, ?_⟩) (by assumption) ?_
        rotate_left
        · (intro wq hSw; (try dsimp only at hSw); go_simp; try with_reducible rfl)
        try simp only [Act.put, List.setIfInBounds_toArray, List.set_cons_zero, List.set_cons_succ]
        refine wpAnyH_take (i := 3) (oi := ⟨some 53, _, _, _, _, _⟩) (v := ?_) rfl (by kernel_rfl) (by kernel_rfl) (by kernel_rfl) (fun _ _ _ h => h) (Or.inl ⟨by rfl, ?_⟩) (by assumption) ?_
        rotate_left
        · (intro wq hSw; (try dsimp only at hSw); go_simp; try with_reducible rfl)
        try simp only [Act.put, List.setIfInBounds_toArray, List.set_cons_zero, List.set_cons_succ]
        refine wpAnyH_take (i := 4) (oi := ⟨some 54, _, _, _, _, _⟩) (v := ?_) rfl (by kernel_rfl) (by kernel_rfl) (by kernel_rfl) (fun _ _ _ h => h) (Or.inl ⟨by rfl, ?_⟩) (by assumption) ?_
        rotate_left
        · (intro wq hSw; (try dsimp only at hSw); go_simp; try with_reducible rfl)
        try simp only [Act.put, List.setIfInBounds_toArray, List.set_cons_zero, List.set_cons_succ]
        refine wpAnyH_take (i := 5) (oi := ⟨some 55, _, _, _, _, _⟩) (v := ?_) rfl (by kernel_rfl) (by kernel_rfl) (by kernel_rfl) (fun _ _ _ h => h) (Or.inl ⟨by rfl, ?_⟩) (by assumption) ?_
        rotate_left
        · (intro wq hSw; (try dsimp only at hSw); go_simp; try with_reducible rfl)
        try simp only [Act.put, List.setIfInBounds_toArray, List.set_cons_zero, List.set_cons_succ]
        refine wpAnyH_take (i := 6) (oi := ⟨some 56, _, _, _, _, _⟩) (v := ?_) rfl (by kernel_rfl) (by kernel_rfl) (by kernel_rfl) (fun _ _ _ h => h) (Or.inl ⟨by rfl, ?_⟩) (by assumption) ?_
        rotate_left
        · (intro wq hSw; (try dsimp only at hSw); go_simp; try with_reducible rfl)
        try simp only [Act.put, List.setIfInBounds_toArray, List.set_cons_zero, List.set_cons_succ]
        refine wpAnyH_take (i := 7) (oi := ⟨some 57, _, _, _, _, _⟩) (v := ?_) rfl (by kernel_rfl) (by kernel_rfl) (by kernel_rfl) (fun _ _ _ h => h) (Or.inl ⟨by rfl, ?_⟩) (by assumption) ?_
        rotate_left
        · (intro wq hSw; (try dsimp only at hSw); have d := hSw.wcells; go_simp; try with_reducible rfl)
        try simp only [Act.put, List.setIfInBounds_toArray, List.set_cons_zero, List.set_cons_succ]
        refine wpAnyH_ready (rs := [8]) (by kernel_rfl) (by simp) ?_
        refine AllReadyH.cons (o := ⟨some 58, _, _, _, _, _⟩) rfl (fun K hK => ?_) AllReadyH.nil
        go_simp
        refine (P1 _).mono ?_; rintro e z8 ⟨rfl, rfl⟩
        refine hK.out _ _ hHeld (fun hHeld => ?_)
        clear hK K
        try simp only [Act.put, List.setIfInBounds_toArray, List.set_cons_zero, List.set_cons_succ]
        refine wpAnyH_take (i := 9) (oi := ⟨some 59, _, _, _, _, _⟩) (v := ?_) rfl (by kernel_rfl) (by kernel_rfl) (by kernel_rfl) (fun _ _ _ h => h) (Or.inl ⟨by rfl, ?_⟩) (by assumption) ?_
        rotate_left
        · (intro wq hSw; (try dsimp only at hSw); go_simp; try with_reducible rfl)
        try simp only [Act.put, List.setIfInBounds_toArray, List.set_cons_zero, List.set_cons_succ]
        refine wpAnyH_take (i := 10) (oi := ⟨some 60, _, _, _, _, _⟩) (v := ?_) rfl (by kernel_rfl) (by kernel_rfl) (by kernel_rfl) (fun _ _ _ h => h) (Or.inl ⟨by rfl, ?_⟩) (by assumption) ?_
        rotate_left
        · (intro wq hSw; (try dsimp only at hSw); go_simp; try with_reducible rfl)
        try simp only [Act.put, List.setIfInBounds_toArray, List.set_cons_zero, List.set_cons_succ]
        refine wpAnyH_take (i := 11) (oi := ⟨some 61, _, _, _, _, _⟩) (v := ?_) rfl (by kernel_rfl) (by kernel_rfl) (by kernel_rfl) (fun _ _ _ h => h) (Or.inl ⟨by rfl, ?_⟩) (by assumption) ?_
        rotate_left
        · (intro wq hSw; (try dsimp only at hSw); go_simp; try with_reducible rfl)
        try simp only [Act.put, List.setIfInBounds_toArray, List.set_cons_zero, List.set_cons_succ]
        refine wpAnyH_take (i := 12) (oi := ⟨some 62, _, _, _, _, _⟩) (v := ?_) rfl (by kernel_rfl) (by kernel_rfl) (by kernel_rfl) (fun _ _ _ h => h) (Or.inl ⟨by rfl, ?_⟩) (by assumption) ?_
        rotate_left
        · (intro wq hSw; (try dsimp only at hSw); have d := hSw.wcells; go_simp; try with_reducible rfl)
        try simp only [Act.put, List.setIfInBounds_toArray, List.set_cons_zero, List.set_cons_succ]
        refine wpAnyH_take (i := 14) (oi := ⟨some 64, _, _, _, _, _⟩) (v := ?_) rfl (by kernel_rfl) (by kernel_rfl) (by kernel_rfl) (fun _ _ _ h => h) (Or.inl ⟨by rfl, ?_⟩) (by assumption) ?_
        rotate_left
        · (intro wq hSw; (try dsimp only at hSw); go_simp; try with_reducible rfl)
        try simp only [Act.put, List.setIfInBounds_toArray, List.set_cons_zero, List.set_cons_succ]
        refine wpAnyH_take (i := 15) (oi := ⟨some 65, _, _, _, _, _⟩) (v := ?_) rfl (by kernel_rfl) (by kernel_rfl) (by kernel_rfl) (fun _ _ _ h => h) (Or.inl ⟨by rfl, ?_⟩) (by assumption) ?_
        rotate_left
        · (intro wq hSw; (try dsimp only at hSw); have d := hSw.wcells; go_simp; try with_reducible rfl)
        try simp only [Act.put, List.setIfInBounds_toArray, List.set_cons_zero, List.set_cons_succ]
        refine wpAnyH_ready (rs := [13]) (by kernel_rfl) (by simp) ?_
        refine AllReadyH.cons (o := ⟨some 63, _, _, _, _, _⟩) rfl (fun K hK => ?_) AllReadyH.nil
        go_simp
        refine (C1 _).mono ?_; rintro e z13 ⟨rfl, y13⟩; have g13 := h11d.keep y13
        refine hK.out _ _ (hHeld.keep y13) (fun hHeld => ?_)
        clear hK K
        try simp only [Act.put, List.setIfInBounds_toArray, List.set_cons_zero, List.set_cons_succ]
        refine wpAnyH_ready (rs := [16]) (by kernel_rfl) (by simp) ?_
        refine AllReadyH.cons (o := ⟨some 66, _, _, _, _, _⟩) rfl (fun K hK => ?_) AllReadyH.nil
        go_simp
        refine (C2 _).mono ?_; rintro e z16 ⟨rfl, y16⟩; have g16 := g13.keep y16
        refine hK.out _ _ (hHeld.keep y16) (fun hHeld => ?_)
        clear hK K
        try simp only [Act.put, List.setIfInBounds_toArray, List.set_cons_zero, List.set_cons_succ]
        refine wpAnyH_take (i := 17) (oi := ⟨some 67, _, _, _, _, _⟩) (v := ?_) rfl (by kernel_rfl) (by kernel_rfl) (by kernel_rfl) (fun _ _ _ h => h) (Or.inl ⟨by rfl, ?_⟩) (by assumption) ?_
        rotate_left
        · (intro wq hSw; (try dsimp only at hSw); go_simp; try with_reducible rfl)
        try simp only [Act.put, List.setIfInBounds_toArray, List.set_cons_zero, List.set_cons_succ]
        refine wpAnyH_take (i := 18) (oi := ⟨some 68, _, _, _, _, _⟩) (v := ?_) rfl (by kernel_rfl) (by kernel_rfl) (by kernel_rfl) (fun _ _ _ h => h) (Or.inl ⟨by rfl, ?_⟩) (by assumption) ?_
        rotate_left
        · (intro wq hSw; (try dsimp only at hSw); go_simp; try with_reducible rfl)
        try simp only [Act.put, List.setIfInBounds_toArray, List.set_cons_zero, List.set_cons_succ]
        refine wpAnyH_take (i := 19) (oi := ⟨some 69, _, _, _, _, _⟩) (v := ?_) rfl (by kernel_rfl) (by kernel_rfl) (by kernel_rfl) (fun _ _ _ h => h) (Or.inl ⟨by rfl, ?_⟩) (by assumption) ?_
        rotate_left
        · (intro wq hSw; (try dsimp only at hSw); go_simp; try with_reducible rfl)
        try simp only [Act.put, List.setIfInBounds_toArray, List.set_cons_zero, List.set_cons_succ]
        refine wpAnyH_done (by kernel_rfl) ?_ _
        have h20 := g16
        have a20 := hHeld
        clear hHeld a11d h11d C1 C2 P1 hk e1 e2 e3 hov g1 g13 g16 y13 y16
        revert h20 a20
        generalize z16 = w20
        intro h20 a20
        have d20 := a20.wcells
        have hz20 := h20.new.size
        have hqq : Q1 < w20.heap.size := (Array.getElem?_eq_some_iff.1 a20).1
        have k21 := (New.refl w20).alloc (.cells #[.int .i64 x.what, .int .i64 x.fr, .int .i64 x.to, .int .i64 x.den, .int .u64 (V : Nat)] 69)
        have y21 : aB (w20.alloc (.cells #[.int .i64 x.what, .int .i64 x.fr, .int .i64 x.to, .int .i64 x.den, .int .u64 (V : Nat)] 69)) w20.heap.size (x.with V) := heap_alloc_new w20 _
        have h21 := h20.keep k21
        have a21 := a20.keep k21
        go_upto_region 17 with (fail)
        clear h20 a20 d20 k21
        revert hz20 hqq y21 h21 a21
        generalize w20.alloc _ = w21
        generalize w20.heap.size = q1
        intro hz20 hqq y21 h21 a21
        have f21 := y21.frozen 4
        have dy21 := y21.wcells
        have kS1 : Keeps (fun k => k = q1) w21 (w21.setCell ⟨q1, 4, none⟩ (.int .u64 (N : Nat))) := (Keeps.refl (fun k => k = q1) w21).set1 4 _
        have h22 := h21.storedA y21 hz20 kS1
        have y22 : aB (w21.setCell ⟨q1, 4, none⟩ (.int .u64 (N : Nat))) q1 (x.with N) := aB_set y21 N
        have a22 := a21.keepS kS1 (show ¬ Q1 = q1 by omega)
        go_upto_region 18 with (fail)
        clear h21 a21 y21 f21 kS1 hz20 dy21
        revert h22 y22 a22
        generalize w21.setCell ⟨q1, 4, none⟩ (.int .u64 (N : Nat)) = w22
        intro h22 y22 a22
        have d22 := a22.wcells
        have hz22 := h22.new.size
        have hqx : Q1 < w22.heap.size := (Array.getElem?_eq_some_iff.1 a22).1
        have hqy : q1 < w22.heap.size := (Array.getElem?_eq_some_iff.1 y22).1
        have k23 := (New.refl w22).alloc (.cells #[.int .i64 x.what, .int .i64 x.fr, .int .i64 x.to, .int .i64 x.den, .int .u64 (V : Nat)] 69)
        have z23 : aB (w22.alloc (.cells #[.int .i64 x.what, .int .i64 x.fr, .int .i64 x.to, .int .i64 x.den, .int .u64 (V : Nat)] 69)) w22.heap.size (x.with V) := heap_alloc_new w22 _
        have h23 := h22.keep k23
        have a23 := a22.keep k23
        have y23 := y22.keep k23
        go_upto_region 19 with (fail)
        clear h22 a22 y22 d22 k23
        revert hz22 hqx hqy z23 h23 a23 y23
        generalize w22.alloc _ = w23
        generalize w22.heap.size = q2
        intro hz22 hqx hqy z23 h23 a23 y23
        have d23 := a23.wcells
        have f23 := z23.frozen 4
        have dz23 := z23.wcells
        have kS2 : Keeps (fun k => k = q2) w23 (w23.setCell ⟨q2, 4, none⟩ (.int .u64 (U : Nat))) := (Keeps.refl (fun k => k = q2) w23).set1 4 _
        have h24 := h23.storedA z23 hz22 kS2
        have z24 : aB (w23.setCell ⟨q2, 4, none⟩ (.int .u64 (U : Nat))) q2 (x.with U) := aB_set z23 U
        have a24 := a23.keepS kS2 (show ¬ Q1 = q2 by omega)
        have y24 := y23.keepS kS2 (show ¬ q1 = q2 by omega)
        go_upto_region 20 with (fail)
        clear h23 a23 y23 z23 d23 f23 kS2 dz23 hz22 hqx hqy hqq g2
        revert h24 z24 a24 y24
        generalize w23.setCell ⟨q2, 4, none⟩ (.int .u64 (U : Nat)) = w24
        intro h24 z24 a24 y24
        have dz := z24.wcells
        have D1 := h24.actA (fun ma sa hb => does_any B ma sa n s (x.with U) hx3 (by omega) _ hb)
        have D2 : ∀ z (g : Pr w z B b' (n + 2) (dsS s (x.with U)) s), _ := fun z g => g.actB (fun mb sb hb => does_any b' mb sb (n + 2) s (x.with V) hx1 (by omega) z hb)
        have D3 : ∀ z (g : Pr w z B b' (n + 2 + 2) (dsS s (x.with U)) (dsS s (x.with V))), _ := fun z g => g.actB (fun mb sb hb => does_any b' mb sb (n + 2 + 2) (dsS s (x.with V)) (x.with N) hx2 (by omega) z hb)
        obtain ⟨hi, hs⟩ := hap
        clear h24 hx1 hx2 hx3 i0 i1 i2 i3 i4
        generalize dsE (dsS s (x.with V)) (x.with N) = G at *
        generalize dsS (dsS s (x.with V)) (x.with N) = T2 at *
        generalize dsE s (x.with U) = E at *
        generalize dsS s (x.with U) = R at *
        generalize dsE s (x.with V) = F at *
        generalize dsS s (x.with V) = T at *
        go_wp2_with fail
        refine D1.mono ?_
        rintro e w25 ⟨rfl, h25, k25⟩
        have a25 := a24.kc k25
        have y25 := y24.kc k25
        clear D1 dz z24 a24 y24 k25
        have dx := a25.wcells
        go_wp2_with fail
        refine (D2 _ h25).mono ?_
        rintro e w26 ⟨rfl, h26, k26⟩
        have y26 := y25.kc k26
        clear D2 dx h25 a25 y25 k26
        have dy := y26.wcells
        by_cases hE : E = 0
        · subst hE
          obtain ⟨rfl, rfl⟩ := hi.1 rfl
          obtain rfl := hs rfl
          clear hi hs
          go_wp2_with fail
          refine (D3 _ h26).mono ?_
          rintro e w27 ⟨rfl, h27, -⟩
          clear D3 dy y26 h26
          go_wp2_with fail
          refine (same_any w B b' (n + 2 + 2 + 2) R (by omega) _ (h27.fst) h27.snd).mono ?_
          rintro e w28 ⟨rfl, y28⟩
          go_wp2_with fail
          go_ret
          exact ⟨rfl, h27.new.then y28 (fun _ h => h.elim)⟩
        · have e5 : (E == 0) = false := by simpa using hE
          have e6 : (E != 0) = true := by simpa using hE
          by_cases hF : F = 0
          · subst hF
            have hG : ¬ G = 0 := fun hg => hE (hi.2 ⟨rfl, hg⟩)
            have e7 : (G == 0) = false := by simpa using hG
            clear hi hs hE hG
            go_wp2_with fail
            refine (D3 _ h26).mono ?_
            rintro e w27 ⟨rfl, h27, -⟩
            clear D3 dy y26 h26
            go_wp2_with fail
            go_ret
            exact ⟨rfl, h27.new⟩
          · have e7 : (F == 0) = false := by simpa using hF
            clear hi hs hE hF
            go_wp2_with fail
            go_ret
            exact ⟨rfl, h26.new⟩
end Go.Proofs.Ytcldbipipehedaa
