/-
  voussoirlaw19.CoinRefused: the walk.
-/
import Derived.Test.YtcldbipipehedaaCRf
import Derived.Deep.CutBlock
import Derived.Deep.DeepCutAuto
import Derived.Deep.RegionHeld3
import Derived.Deep.DrawnRows
import Derived.Deep.RegionWith
namespace Go.Proofs.Ytcldbipipehedaa
open Go.RowKit Go.ChangeMaps
def aX (w : World) (q : Nat) (x : A19) : Prop := w.heap[q]? = some (.cells #[.int .i64 x.what, .int .i64 x.side, .int .i64 x.fr, .int .i64 x.to, .int .i64 x.den, .int .i64 x.which, .int .u64 (x.n : Nat)] 39 (0, 0))
theorem aX.kc {w w' : World} {q : Nat} {x : A19} (h : aX w q x) (k : KC w w') : aX w' q x := k _ _ _ _ h
theorem aX.keep {w w' : World} {q : Nat} {x : A19} (h : aX w q x) (k : New w w') : aX w' q x := k.kept h (fun h => h)
theorem Sg.stored {w wx : World} {B n : Nat} {s : BkS} {Q : Nat} {c : Co} (h : Sg w wx B n s) (p : cn wx Q c) (hQ : w.heap.size ≤ Q) {W : World} (k : Keeps (fun k => k = Q) wx W) : Sg w W B n s := by
  obtain ⟨ma, sa, h1, h2, h3, h4, h5⟩ := h
  refine ⟨ma, sa, h1.keepS k ?_ ?_ ?_, h2.then k (fun j hj => .inr (by rw [hj]; exact hQ)), h3, h4, h5⟩
  · intro e
    have := h1.blk
    rw [show B = Q from e, show wx.heap[Q]? = _ from p] at this
    cases this
  · exact fun e => h1.mp.not_cells p e.symm
  · exact fun e => h1.su.not_cells p e.symm
theorem aX.stored {wx W : World} {q Q : Nat} {x : A19} {c : Co} (h : aX wx q x) (p : cn wx Q c) (k : Keeps (fun k => k = Q) wx W) : aX W q x := by
  refine k.kept h ?_
  intro e
  have h2 : wx.heap[q]? = _ := h
  rw [show q = Q from e, show wx.heap[Q]? = _ from p] at h2
  cases h2
theorem sgNewK {w0 w : World} (n0 : New w0 w) :
    Calls Try.prog 19 #[] w fun e w' => ∃ a, e = .returned (.pointer (some ⟨a, 0, none⟩)) ∧ Sg w0 w' a 0 emptyB ∧ KC w w' :=
  (newB_any w).mono fun _ _ ⟨he, hb, k⟩ => ⟨_, he, ⟨_, _, hb, n0.then k (fun _ h => h.elim), by have := n0.size; omega, n0.size, by have := n0.size; omega⟩, KC.of_new k⟩
set_option maxHeartbeats 8000000 in
set_option maxRecDepth 100000 in
theorem refused_walk (A : Option Addr) (len cap : Nat) (la : List A19) (x : A19) (coin : Co) (raw : Bool) (w : World)
    (hla : la.length = len) (h63 : len ≤ 9223372036854775807) (hA : A19At w A la) (hx : I64 x.what ∧ I64 x.side ∧ I64 x.fr ∧ I64 x.to ∧ I64 x.den ∧ I64 x.which ∧ U64 x.n) (hcv : U64 coin.amt) :
    Calls Try.prog 6 #[.slice A len cap, .agg #[.int .i64 x.what, .int .i64 x.side, .int .i64 x.fr, .int .i64 x.to, .int .i64 x.den, .int .i64 x.which, .int .u64 (x.n : Nat)], .agg #[.string ⟨coin.den.toArray⟩, .int .u64 coin.amt, .string ⟨coin.fr.toArray⟩, .string ⟨coin.to.toArray⟩], .bool raw] w fun e w' => e = .returned (.bool true) ∧ New w w' := by
  have k1 : New w (w.alloc (.cells #[.int .i64 x.what, .int .i64 x.side, .int .i64 x.fr, .int .i64 x.to, .int .i64 x.den, .int .i64 x.which, .int .u64 (x.n : Nat)] 39)) := (New.refl w).alloc _
  have a1 : aX (w.alloc (.cells #[.int .i64 x.what, .int .i64 x.side, .int .i64 x.fr, .int .i64 x.to, .int .i64 x.den, .int .i64 x.which, .int .u64 (x.n : Nat)] 39)) w.heap.size x := heap_alloc_new w _
  have k2 : New (w.alloc (.cells #[.int .i64 x.what, .int .i64 x.side, .int .i64 x.fr, .int .i64 x.to, .int .i64 x.den, .int .i64 x.which, .int .u64 (x.n : Nat)] 39)) ((w.alloc (.cells #[.int .i64 x.what, .int .i64 x.side, .int .i64 x.fr, .int .i64 x.to, .int .i64 x.den, .int .i64 x.which, .int .u64 (x.n : Nat)] 39)).alloc (.cells #[.string ⟨coin.den.toArray⟩, .int .u64 coin.amt, .string ⟨coin.fr.toArray⟩, .string ⟨coin.to.toArray⟩] 41)) := (New.refl _).alloc _
  have a2 := a1.keep k2
  have q2 : cn ((w.alloc (.cells #[.int .i64 x.what, .int .i64 x.side, .int .i64 x.fr, .int .i64 x.to, .int .i64 x.den, .int .i64 x.which, .int .u64 (x.n : Nat)] 39)).alloc (.cells #[.string ⟨coin.den.toArray⟩, .int .u64 coin.amt, .string ⟨coin.fr.toArray⟩, .string ⟨coin.to.toArray⟩] 41)) (w.heap.size + 1) coin := by
    have := heap_alloc_new (w.alloc (.cells #[.int .i64 x.what, .int .i64 x.side, .int .i64 x.fr, .int .i64 x.to, .int .i64 x.den, .int .i64 x.which, .int .u64 (x.n : Nat)] 39)) (.cells #[.string ⟨coin.den.toArray⟩, .int .u64 coin.amt, .string ⟨coin.fr.toArray⟩, .string ⟨coin.to.toArray⟩] 41)
    simp only [World.size_alloc] at this
    exact this
  have n2 := k1.then k2 (fun _ h => h.elim)
  have M1 := fun w1 b ma sa (h : Bk w1 b ma sa 0 emptyB) => mint_any b ma sa 0 emptyB xAnn xGold 1000 (by show _ < _; decide) (by omega) w1 h
  rw [rf_e1, show mintS emptyB xAnn xGold 1000 = rf1 from rfl] at M1
  have M2 := fun w1 b ma sa (h : Bk w1 b ma sa 2 rf1) => mint_any b ma sa 2 rf1 xAnn xV1 1000 (by show _ < _; decide) (by omega) w1 h
  rw [rf_e2] at M2
  generalize mintS rf1 xAnn xV1 1000 = s2 at *
  generalize rf1 = s1 at *
  unfold xAnn xGold at M1
  unfold xAnn xV1 at M2
  clear k1 k2 a1
  go_enter Try.func6, Try.ntmps6
  go_wp2_with fail
  revert a2 q2 n2
  generalize (w.alloc (.cells #[.int .i64 x.what, .int .i64 x.side, .int .i64 x.fr, .int .i64 x.to, .int .i64 x.den, .int .i64 x.which, .int .u64 (x.n : Nat)] 39)).alloc (.cells #[.string ⟨coin.den.toArray⟩, .int .u64 coin.amt, .string ⟨coin.fr.toArray⟩, .string ⟨coin.to.toArray⟩] 41) = wa
  generalize w.heap.size + 1 = Q2
  generalize w.heap.size = Q1
  intro a2 q2 n2
  refine (awake_any _).mono ?_
  rintro e w3 ⟨rfl, k3⟩
  have a3 := a2.keep k3
  have q3 := q2.keep k3
  have n3 := n2.then k3 (fun _ h => h.elim)
  clear a2 q2 n2 k3
  go_wp2_with fail
  refine (sgNewK n3).mono ?_
  rintro e w4 ⟨B, rfl, h4, k4⟩
  have a4 := a3.kc k4
  have q4 := q3.kc k4
  clear a3 q3 n3 k4
  go_wp2_with fail
  refine (h4.act (fun ma sa hb => M1 _ B ma sa hb)).mono ?_
  rintro e w5 ⟨rfl, h5, k5⟩
  have a5 := a4.kc k5
  have q5 := q4.kc k5
  clear a4 q4 h4 k5 M1
  go_wp2_with fail
  refine (h5.act (fun ma sa hb => M2 _ B ma sa hb)).mono ?_
  rintro e w6 ⟨rfl, h6, k6⟩
  have a6 := a5.kc k6
  have q6 := q5.kc k6
  clear a5 q5 h5 k6 M2
  go_upto_block 0 with (fail)
  go_cut [] (fun wx => ∃ (n : Nat) (s : BkS), n ≤ 44 ∧ Sg w wx B n s ∧ aX wx Q1 x ∧ cn wx Q2 coin)
  case first =>
    go_wp2_with fail
    go_loopw [11] (fun i wr => ∃ (k n : Nat) (s : BkS), k ≤ len ∧ k ≤ 20 ∧ n ≤ 4 + 2 * k ∧ i = .int .i64 k ∧ Sg w wr B n s ∧ aX wr Q1 x ∧ cn wr Q2 coin)
      (fun i _ => 20 - (intOf i).toNat)
    case atStart => exact ⟨0, 4, s2, by omega, by omega, by omega, rfl, h6, a6, q6⟩
    case round =>
      clear h6 a6 q6
      obtain ⟨k, n, s, hk, hk20, hn, rfl, h7, a7, q7⟩ := hrel
      have hk0 : (0 : Int) ≤ (k : Int) := Int.natCast_nonneg _
      by_cases hlt : k < len
      · by_cases hlt2 : k < 20
        · obtain ⟨bA, oA, rfl, hbA, ⟨i0, i1, i2, i3, i4, i5, i6⟩, c0, c1, c2, c3, c4, c5, c6⟩ := hA k la[k] (List.getElem?_eq_getElem (by omega))
          generalize la[k] = y at *
          have hk1 : (k : Int) < (len : Int) := by omega
          have nW := h7.new.drew
          have hbA7 : bA < wr.heap.size := Nat.lt_of_lt_of_le hbA h7.new.size
          have D1 := fun w => denom_any y.den i4 w
          have N1 := fun w => name_any y.fr i2 w
          have N2 := fun w => name_any y.to i3 w
          have h7d := h7.drew
          have a7d : aX wr.drew Q1 x := a7
          have q7d := q7.drew
          go_wp2_with fail
          refine wp_region_held_drew (S := (fun w' => New w w')) (by kernel_rfl) ?_ (fun hHeld => ?_)
          · exact nW
          refine wpAnyH_take (i := 0) (oi := ⟨some 48, _, _, _, _, _⟩) (v := ?_) rfl (by kernel_rfl) (by kernel_rfl) (by kernel_rfl) (fun _ _ _ h => h) (Or.inl ⟨by rfl, ?_⟩) (by assumption) ?_
          rotate_left
          · (intro wq hSw; (try dsimp only at hSw); go_simp; try with_reducible rfl)
          try simp only [Act.put, List.setIfInBounds_toArray, List.set_cons_zero, List.set_cons_succ]
          refine wpAnyH_take (i := 1) (oi := ⟨some 49, _, _, _, _, _⟩) (v := ?_) rfl (by kernel_rfl) (by kernel_rfl) (by kernel_rfl) (fun _ _ _ h => h) (Or.inl ⟨by rfl, ?_⟩) (by assumption) ?_
          rotate_left
          · (intro wq hSw; (try dsimp only at hSw); go_simp; try with_reducible rfl)
          try simp only [Act.put, List.setIfInBounds_toArray, List.set_cons_zero, List.set_cons_succ]
          refine wpAnyH_take (i := 2) (oi := ⟨some 50, _, _, _, _, _⟩) (v := ?_) rfl (by kernel_rfl) (by kernel_rfl) (by kernel_rfl) (fun _ _ _ h => h) (Or.inl ⟨by rfl, ?_⟩) (by assumption) ?_
          rotate_left
          · (intro wq hSw; (try dsimp only at hSw); go_simp; try with_reducible rfl)
          try simp only [Act.put, List.setIfInBounds_toArray, List.set_cons_zero, List.set_cons_succ]
          refine wpAnyH_take (i := 3) (oi := ⟨some 51, _, _, _, _, _⟩) (v := ?_) rfl (by kernel_rfl) (by kernel_rfl) (by kernel_rfl) (fun _ _ _ h => h) (Or.inl ⟨by rfl, ?_⟩) (by assumption) ?_
          rotate_left
          · (intro wq hSw; (try dsimp only at hSw); go_simp; try with_reducible rfl)
          try simp only [Act.put, List.setIfInBounds_toArray, List.set_cons_zero, List.set_cons_succ]
          refine wpAnyH_take (i := 4) (oi := ⟨some 52, _, _, _, _, _⟩) (v := ?_) rfl (by kernel_rfl) (by kernel_rfl) (by kernel_rfl) (fun _ _ _ h => h) (Or.inl ⟨by rfl, ?_⟩) (by assumption) ?_
          rotate_left
          · (intro wq hSw; (try dsimp only at hSw); have d0 := (hSw.cell (p := ⟨bA, oA + k * 7, none⟩) hbA (fun h => h)).trans c0; have d1 := (hSw.cell (p := ⟨bA, oA + k * 7 + 1, none⟩) hbA (fun h => h)).trans c1; have d2 := (hSw.cell (p := ⟨bA, oA + k * 7 + 2, none⟩) hbA (fun h => h)).trans c2; have d3 := (hSw.cell (p := ⟨bA, oA + k * 7 + 3, none⟩) hbA (fun h => h)).trans c3; have d4 := (hSw.cell (p := ⟨bA, oA + k * 7 + 4, none⟩) hbA (fun h => h)).trans c4; have d5 := (hSw.cell (p := ⟨bA, oA + k * 7 + 5, none⟩) hbA (fun h => h)).trans c5; have d6 := (hSw.cell (p := ⟨bA, oA + k * 7 + 6, none⟩) hbA (fun h => h)).trans c6; go_simp; try with_reducible rfl)
          try simp only [Act.put, List.setIfInBounds_toArray, List.set_cons_zero, List.set_cons_succ]
          refine wpAnyH_take (i := 5) (oi := ⟨some 53, _, _, _, _, _⟩) (v := ?_) rfl (by kernel_rfl) (by kernel_rfl) (by kernel_rfl) (fun _ _ _ h => h) (Or.inl ⟨by rfl, ?_⟩) (by assumption) ?_
          rotate_left
          · (intro wq hSw; (try dsimp only at hSw); go_simp; try with_reducible rfl)
          try simp only [Act.put, List.setIfInBounds_toArray, List.set_cons_zero, List.set_cons_succ]
          refine wpAnyH_take (i := 6) (oi := ⟨some 54, _, _, _, _, _⟩) (v := ?_) rfl (by kernel_rfl) (by kernel_rfl) (by kernel_rfl) (fun _ _ _ h => h) (Or.inl ⟨by rfl, ?_⟩) (by assumption) ?_
          rotate_left
          · (intro wq hSw; (try dsimp only at hSw); go_simp; try with_reducible rfl)
          try simp only [Act.put, List.setIfInBounds_toArray, List.set_cons_zero, List.set_cons_succ]
          refine wpAnyH_take (i := 7) (oi := ⟨some 55, _, _, _, _, _⟩) (v := ?_) rfl (by kernel_rfl) (by kernel_rfl) (by kernel_rfl) (fun _ _ _ h => h) (Or.inl ⟨by rfl, ?_⟩) (by assumption) ?_
          rotate_left
          · (intro wq hSw; (try dsimp only at hSw); go_simp; try with_reducible rfl)
          try simp only [Act.put, List.setIfInBounds_toArray, List.set_cons_zero, List.set_cons_succ]
          refine wpAnyH_take (i := 8) (oi := ⟨some 56, _, _, _, _, _⟩) (v := ?_) rfl (by kernel_rfl) (by kernel_rfl) (by kernel_rfl) (fun _ _ _ h => h) (Or.inl ⟨by rfl, ?_⟩) (by assumption) ?_
          rotate_left
          · (intro wq hSw; (try dsimp only at hSw); go_simp; try with_reducible rfl)
          try simp only [Act.put, List.setIfInBounds_toArray, List.set_cons_zero, List.set_cons_succ]
          refine wpAnyH_take (i := 9) (oi := ⟨some 57, _, _, _, _, _⟩) (v := ?_) rfl (by kernel_rfl) (by kernel_rfl) (by kernel_rfl) (fun _ _ _ h => h) (Or.inl ⟨by rfl, ?_⟩) (by assumption) ?_
          rotate_left
          · (intro wq hSw; (try dsimp only at hSw); have d := (hSw.cell (p := ⟨bA, oA + k * 7 + 4, none⟩) hbA (fun h => h)).trans c4; go_simp; try with_reducible rfl)
          try simp only [Act.put, List.setIfInBounds_toArray, List.set_cons_zero, List.set_cons_succ]
          refine wpAnyH_take (i := 11) (oi := ⟨some 59, _, _, _, _, _⟩) (v := ?_) rfl (by kernel_rfl) (by kernel_rfl) (by kernel_rfl) (fun _ _ _ h => h) (Or.inl ⟨by rfl, ?_⟩) (by assumption) ?_
          rotate_left
          · (intro wq hSw; (try dsimp only at hSw); go_simp; try with_reducible rfl)
          try simp only [Act.put, List.setIfInBounds_toArray, List.set_cons_zero, List.set_cons_succ]
          refine wpAnyH_take (i := 12) (oi := ⟨some 60, _, _, _, _, _⟩) (v := ?_) rfl (by kernel_rfl) (by kernel_rfl) (by kernel_rfl) (fun _ _ _ h => h) (Or.inl ⟨by rfl, ?_⟩) (by assumption) ?_
          rotate_left
          · (intro wq hSw; (try dsimp only at hSw); go_simp; try with_reducible rfl)
          try simp only [Act.put, List.setIfInBounds_toArray, List.set_cons_zero, List.set_cons_succ]
          refine wpAnyH_take (i := 13) (oi := ⟨some 61, _, _, _, _, _⟩) (v := ?_) rfl (by kernel_rfl) (by kernel_rfl) (by kernel_rfl) (fun _ _ _ h => h) (Or.inl ⟨by rfl, ?_⟩) (by assumption) ?_
          rotate_left
          · (intro wq hSw; (try dsimp only at hSw); go_simp; try with_reducible rfl)
          try simp only [Act.put, List.setIfInBounds_toArray, List.set_cons_zero, List.set_cons_succ]
          refine wpAnyH_take (i := 14) (oi := ⟨some 62, _, _, _, _, _⟩) (v := ?_) rfl (by kernel_rfl) (by kernel_rfl) (by kernel_rfl) (fun _ _ _ h => h) (Or.inl ⟨by rfl, ?_⟩) (by assumption) ?_
          rotate_left
          · (intro wq hSw; (try dsimp only at hSw); go_simp; try with_reducible rfl)
          try simp only [Act.put, List.setIfInBounds_toArray, List.set_cons_zero, List.set_cons_succ]
          refine wpAnyH_take (i := 15) (oi := ⟨some 63, _, _, _, _, _⟩) (v := ?_) rfl (by kernel_rfl) (by kernel_rfl) (by kernel_rfl) (fun _ _ _ h => h) (Or.inl ⟨by rfl, ?_⟩) (by assumption) ?_
          rotate_left
          · (intro wq hSw; (try dsimp only at hSw); have d := (hSw.cell (p := ⟨bA, oA + k * 7 + 6, none⟩) hbA (fun h => h)).trans c6; go_simp; try with_reducible rfl)
          try simp only [Act.put, List.setIfInBounds_toArray, List.set_cons_zero, List.set_cons_succ]
          refine wpAnyH_take (i := 16) (oi := ⟨some 64, _, _, _, _, _⟩) (v := ?_) rfl (by kernel_rfl) (by kernel_rfl) (by kernel_rfl) (fun _ _ _ h => h) (Or.inl ⟨by rfl, ?_⟩) (by assumption) ?_
          rotate_left
          · (intro wq hSw; (try dsimp only at hSw); go_simp; try with_reducible rfl)
          try simp only [Act.put, List.setIfInBounds_toArray, List.set_cons_zero, List.set_cons_succ]
          refine wpAnyH_take (i := 17) (oi := ⟨some 65, _, _, _, _, _⟩) (v := ?_) rfl (by kernel_rfl) (by kernel_rfl) (by kernel_rfl) (fun _ _ _ h => h) (Or.inl ⟨by rfl, ?_⟩) (by assumption) ?_
          rotate_left
          · (intro wq hSw; (try dsimp only at hSw); go_simp; try with_reducible rfl)
          try simp only [Act.put, List.setIfInBounds_toArray, List.set_cons_zero, List.set_cons_succ]
          refine wpAnyH_take (i := 18) (oi := ⟨some 66, _, _, _, _, _⟩) (v := ?_) rfl (by kernel_rfl) (by kernel_rfl) (by kernel_rfl) (fun _ _ _ h => h) (Or.inl ⟨by rfl, ?_⟩) (by assumption) ?_
          rotate_left
          · (intro wq hSw; (try dsimp only at hSw); go_simp; try with_reducible rfl)
          try simp only [Act.put, List.setIfInBounds_toArray, List.set_cons_zero, List.set_cons_succ]
          refine wpAnyH_take (i := 19) (oi := ⟨some 67, _, _, _, _, _⟩) (v := ?_) rfl (by kernel_rfl) (by kernel_rfl) (by kernel_rfl) (fun _ _ _ h => h) (Or.inl ⟨by rfl, ?_⟩) (by assumption) ?_
          rotate_left
          · (intro wq hSw; (try dsimp only at hSw); go_simp; try with_reducible rfl)
          try simp only [Act.put, List.setIfInBounds_toArray, List.set_cons_zero, List.set_cons_succ]
          refine wpAnyH_take (i := 20) (oi := ⟨some 68, _, _, _, _, _⟩) (v := ?_) rfl (by kernel_rfl) (by kernel_rfl) (by kernel_rfl) (fun _ _ _ h => h) (Or.inl ⟨by rfl, ?_⟩) (by assumption) ?_
          rotate_left
          · (intro wq hSw; (try dsimp only at hSw); have d := (hSw.cell (p := ⟨bA, oA + k * 7 + 2, none⟩) hbA (fun h => h)).trans c2; go_simp; try with_reducible rfl)
          try simp only [Act.put, List.setIfInBounds_toArray, List.set_cons_zero, List.set_cons_succ]
          refine wpAnyH_take (i := 22) (oi := ⟨some 70, _, _, _, _, _⟩) (v := ?_) rfl (by kernel_rfl) (by kernel_rfl) (by kernel_rfl) (fun _ _ _ h => h) (Or.inl ⟨by rfl, ?_⟩) (by assumption) ?_
          rotate_left
          · (intro wq hSw; (try dsimp only at hSw); go_simp; try with_reducible rfl)
          try simp only [Act.put, List.setIfInBounds_toArray, List.set_cons_zero, List.set_cons_succ]
          refine wpAnyH_take (i := 23) (oi := ⟨some 71, _, _, _, _, _⟩) (v := ?_) rfl (by kernel_rfl) (by kernel_rfl) (by kernel_rfl) (fun _ _ _ h => h) (Or.inl ⟨by rfl, ?_⟩) (by assumption) ?_
          rotate_left
          · (intro wq hSw; (try dsimp only at hSw); go_simp; try with_reducible rfl)
          try simp only [Act.put, List.setIfInBounds_toArray, List.set_cons_zero, List.set_cons_succ]
          refine wpAnyH_take (i := 24) (oi := ⟨some 72, _, _, _, _, _⟩) (v := ?_) rfl (by kernel_rfl) (by kernel_rfl) (by kernel_rfl) (fun _ _ _ h => h) (Or.inl ⟨by rfl, ?_⟩) (by assumption) ?_
          rotate_left
          · (intro wq hSw; (try dsimp only at hSw); go_simp; try with_reducible rfl)
          try simp only [Act.put, List.setIfInBounds_toArray, List.set_cons_zero, List.set_cons_succ]
          refine wpAnyH_take (i := 25) (oi := ⟨some 73, _, _, _, _, _⟩) (v := ?_) rfl (by kernel_rfl) (by kernel_rfl) (by kernel_rfl) (fun _ _ _ h => h) (Or.inl ⟨by rfl, ?_⟩) (by assumption) ?_
          rotate_left
          · (intro wq hSw; (try dsimp only at hSw); go_simp; try with_reducible rfl)
          try simp only [Act.put, List.setIfInBounds_toArray, List.set_cons_zero, List.set_cons_succ]
          refine wpAnyH_take (i := 26) (oi := ⟨some 74, _, _, _, _, _⟩) (v := ?_) rfl (by kernel_rfl) (by kernel_rfl) (by kernel_rfl) (fun _ _ _ h => h) (Or.inl ⟨by rfl, ?_⟩) (by assumption) ?_
          rotate_left
          · (intro wq hSw; (try dsimp only at hSw); have d := (hSw.cell (p := ⟨bA, oA + k * 7 + 3, none⟩) hbA (fun h => h)).trans c3; go_simp; try with_reducible rfl)
          try simp only [Act.put, List.setIfInBounds_toArray, List.set_cons_zero, List.set_cons_succ]
          refine wpAnyH_ready (rs := [10]) (by kernel_rfl) (by simp) ?_
          refine AllReadyH.cons (o := ⟨some 58, _, _, _, _, _⟩) rfl (fun K hK => ?_) AllReadyH.nil
          go_simp
          refine (D1 _).mono ?_; rintro e z10 ⟨rfl, y10⟩; have g10 := h7d.keep y10; have a10 := a7d.keep y10; have q10 := q7d.keep y10
          refine hK.out _ _ (hHeld.then y10 (fun _ h => h.elim)) (fun hHeld => ?_)
          clear hK K
          try simp only [Act.put, List.setIfInBounds_toArray, List.set_cons_zero, List.set_cons_succ]
          refine wpAnyH_ready (rs := [21]) (by kernel_rfl) (by simp) ?_
          refine AllReadyH.cons (o := ⟨some 69, _, _, _, _, _⟩) rfl (fun K hK => ?_) AllReadyH.nil
          go_simp
          refine (N1 _).mono ?_; rintro e z21 ⟨rfl, y21⟩; have g21 := g10.keep y21; have a21 := a10.keep y21; have q21 := q10.keep y21
          refine hK.out _ _ (hHeld.then y21 (fun _ h => h.elim)) (fun hHeld => ?_)
          clear hK K
          try simp only [Act.put, List.setIfInBounds_toArray, List.set_cons_zero, List.set_cons_succ]
          refine wpAnyH_ready (rs := [27]) (by kernel_rfl) (by simp) ?_
          refine AllReadyH.cons (o := ⟨some 75, _, _, _, _, _⟩) rfl (fun K hK => ?_) AllReadyH.nil
          go_simp
          refine (N2 _).mono ?_; rintro e z27 ⟨rfl, y27⟩; have g27 := g21.keep y27; have a27 := a21.keep y27; have q27 := q21.keep y27
          refine hK.out _ _ (hHeld.then y27 (fun _ h => h.elim)) (fun hHeld => ?_)
          clear hK K
          try simp only [Act.put, List.setIfInBounds_toArray, List.set_cons_zero, List.set_cons_succ]
          refine wpAnyH_take (i := 28) (oi := ⟨some 76, _, _, _, _, _⟩) (v := ?_) rfl (by kernel_rfl) (by kernel_rfl) (by kernel_rfl) (fun _ _ _ h => h) (Or.inl ⟨by rfl, ?_⟩) (by assumption) ?_
          rotate_left
          · (intro wq hSw; (try dsimp only at hSw); go_simp; try with_reducible rfl)
          try simp only [Act.put, List.setIfInBounds_toArray, List.set_cons_zero, List.set_cons_succ]
          refine wpAnyH_ready (rs := [29]) (by kernel_rfl) (by simp) ?_
          refine AllReadyH.cons (o := ⟨some 77, _, _, _, _, _⟩) rfl (fun K hK => ?_) AllReadyH.nil
          go_simp
          refine (g27.act (fun ma sa hb => step_any B ma sa n s y i0 i1 ⟨dnL (pk y.den 7), y.n, nmL (pk y.fr 6), nmL (pk y.to 6)⟩ i6 (by omega) _ hb)).mono ?_; rintro e z29 ⟨rfl, g29, k29⟩
          refine hK.out _ _ (g29.new) (fun hHeld => ?_)
          clear hK K
          try simp only [Act.put, List.setIfInBounds_toArray, List.set_cons_zero, List.set_cons_succ]
          refine wpAnyH_done (by kernel_rfl) ?_ _
          go_wp2_with fail
          go_roundw
          case rel => exact ⟨k + 1, n + 2, _, by omega, by omega, by omega, by go_num, g29, a27.kc k29, q27.kc k29⟩
          case measure => simp [intOf]; omega
        · go_wp2_with fail
          go_meet
          case rel => exact ⟨n, s, by omega, h7, a7, q7⟩
      · go_wp2_with fail
        go_meet
        case rel => exact ⟨n, s, by omega, h7, a7, q7⟩
  case rest =>
    clear h6 a6 q6
    obtain ⟨n, s, hn, h7, a7, q7⟩ := hcut
    obtain ⟨i0, i1, i2, i3, i4, i5, i6⟩ := hx
    have D1 := fun w => denom_any x.den i4 w
    have N1 := fun w => name_any x.fr i2 w
    have N2 := fun w => name_any x.to i3 w
    go_upto_region 9 with (fail)
    go_cut [12] (fun v wx => ∃ (Q3 : Nat) (c : Co), v = .pointer (some ⟨Q3, 0, none⟩) ∧ w.heap.size ≤ Q3 ∧ U64 c.amt ∧ Sg w wx B n s ∧ aX wx Q1 x ∧ cn wx Q2 coin ∧ cn wx Q3 c)
    case first =>
      have h7d := h7.drew
      have a7d : aX wc.drew Q1 x := a7
      have q7d := q7.drew
      go_wp2_with fail
      refine wp_region_held_drew (S := (fun w' => New wc.drew w')) (by kernel_rfl) ?_ (fun hHeld => ?_)
      · exact New.refl _
      have sg := hHeld
      refine wpAnyH_take (i := 0) (oi := ⟨some 78, _, _, _, _, _⟩) (v := ?_) rfl (by kernel_rfl) (by kernel_rfl) (by kernel_rfl) (fun _ _ _ h => h) (Or.inl ⟨by rfl, ?_⟩) (by assumption) ?_
      rotate_left
      · (intro wq hSw; (try dsimp only at hSw); go_simp; try with_reducible rfl)
      try simp only [Act.put, List.setIfInBounds_toArray, List.set_cons_zero, List.set_cons_succ]
      refine wpAnyH_take (i := 1) (oi := ⟨some 79, _, _, _, _, _⟩) (v := ?_) rfl (by kernel_rfl) (by kernel_rfl) (by kernel_rfl) (fun _ _ _ h => h) (Or.inl ⟨by rfl, ?_⟩) (by assumption) ?_
      rotate_left
      · (intro wq hSw; (try dsimp only at hSw); have d := act_cells (hSw.kept a7d (fun h => h)); go_simp; try with_reducible rfl)
      try simp only [Act.put, List.setIfInBounds_toArray, List.set_cons_zero, List.set_cons_succ]
      refine wpAnyH_take (i := 3) (oi := ⟨some 81, _, _, _, _, _⟩) (v := ?_) rfl (by kernel_rfl) (by kernel_rfl) (by kernel_rfl) (fun _ _ _ h => h) (Or.inl ⟨by rfl, ?_⟩) (by assumption) ?_
      rotate_left
      · (intro wq hSw; (try dsimp only at hSw); go_simp; try with_reducible rfl)
      try simp only [Act.put, List.setIfInBounds_toArray, List.set_cons_zero, List.set_cons_succ]
      refine wpAnyH_take (i := 4) (oi := ⟨some 82, _, _, _, _, _⟩) (v := ?_) rfl (by kernel_rfl) (by kernel_rfl) (by kernel_rfl) (fun _ _ _ h => h) (Or.inl ⟨by rfl, ?_⟩) (by assumption) ?_
      rotate_left
      · (intro wq hSw; (try dsimp only at hSw); have d := act_cells (hSw.kept a7d (fun h => h)); go_simp; try with_reducible rfl)
      try simp only [Act.put, List.setIfInBounds_toArray, List.set_cons_zero, List.set_cons_succ]
      refine wpAnyH_take (i := 5) (oi := ⟨some 83, _, _, _, _, _⟩) (v := ?_) rfl (by kernel_rfl) (by kernel_rfl) (by kernel_rfl) (fun _ _ _ h => h) (Or.inl ⟨by rfl, ?_⟩) (by assumption) ?_
      rotate_left
      · (intro wq hSw; (try dsimp only at hSw); go_simp; try with_reducible rfl)
      try simp only [Act.put, List.setIfInBounds_toArray, List.set_cons_zero, List.set_cons_succ]
      refine wpAnyH_take (i := 6) (oi := ⟨some 84, _, _, _, _, _⟩) (v := ?_) rfl (by kernel_rfl) (by kernel_rfl) (by kernel_rfl) (fun _ _ _ h => h) (Or.inl ⟨by rfl, ?_⟩) (by assumption) ?_
      rotate_left
      · (intro wq hSw; (try dsimp only at hSw); have d := act_cells (hSw.kept a7d (fun h => h)); go_simp; try with_reducible rfl)
      try simp only [Act.put, List.setIfInBounds_toArray, List.set_cons_zero, List.set_cons_succ]
      refine wpAnyH_take (i := 8) (oi := ⟨some 86, _, _, _, _, _⟩) (v := ?_) rfl (by kernel_rfl) (by kernel_rfl) (by kernel_rfl) (fun _ _ _ h => h) (Or.inl ⟨by rfl, ?_⟩) (by assumption) ?_
      rotate_left
      · (intro wq hSw; (try dsimp only at hSw); go_simp; try with_reducible rfl)
      try simp only [Act.put, List.setIfInBounds_toArray, List.set_cons_zero, List.set_cons_succ]
      refine wpAnyH_take (i := 9) (oi := ⟨some 87, _, _, _, _, _⟩) (v := ?_) rfl (by kernel_rfl) (by kernel_rfl) (by kernel_rfl) (fun _ _ _ h => h) (Or.inl ⟨by rfl, ?_⟩) (by assumption) ?_
      rotate_left
      · (intro wq hSw; (try dsimp only at hSw); have d := act_cells (hSw.kept a7d (fun h => h)); go_simp; try with_reducible rfl)
      try simp only [Act.put, List.setIfInBounds_toArray, List.set_cons_zero, List.set_cons_succ]
      refine wpAnyH_ready (rs := [2, 12]) (by kernel_rfl) (by simp) ?_
      refine AllReadyH.cons (o := ⟨some 80, _, _, _, _, _⟩) rfl (fun K hK => ?_) (AllReadyH.cons (o := ⟨some 12, _, _, _, _, _⟩) rfl (fun K hK => ?_) AllReadyH.nil)
      focus
        go_simp
        refine (D1 _).mono ?_; rintro e z2 ⟨rfl, y2⟩; first | have al := y2.kept al (fun h => h) | (have hq := sg.size; have al := y2.kept (heap_alloc_new _ _) (fun h => h)) | skip; have sg := hHeld.then y2 (fun _ h => h.elim)
        refine hK.out _ _ (hHeld.then y2 (fun _ h => h.elim)) (fun hHeld => ?_)
        clear hK K
        try simp only [Act.put, List.setIfInBounds_toArray, List.set_cons_zero, List.set_cons_succ]
        refine wpAnyH_ready (rs := [7, 12]) (by kernel_rfl) (by simp) ?_
        refine AllReadyH.cons (o := ⟨some 85, _, _, _, _, _⟩) rfl (fun K hK => ?_) (AllReadyH.cons (o := ⟨some 12, _, _, _, _, _⟩) rfl (fun K hK => ?_) AllReadyH.nil)
        focus
          go_simp
          refine (N1 _).mono ?_; rintro e z7 ⟨rfl, y7⟩; first | have al := y7.kept al (fun h => h) | (have hq := sg.size; have al := y7.kept (heap_alloc_new _ _) (fun h => h)) | skip; have sg := hHeld.then y7 (fun _ h => h.elim)
          refine hK.out _ _ (hHeld.then y7 (fun _ h => h.elim)) (fun hHeld => ?_)
          clear hK K
          try simp only [Act.put, List.setIfInBounds_toArray, List.set_cons_zero, List.set_cons_succ]
          refine wpAnyH_ready (rs := [10, 12]) (by kernel_rfl) (by simp) ?_
          refine AllReadyH.cons (o := ⟨some 88, _, _, _, _, _⟩) rfl (fun K hK => ?_) (AllReadyH.cons (o := ⟨some 12, _, _, _, _, _⟩) rfl (fun K hK => ?_) AllReadyH.nil)
          focus
            go_simp
            refine (N2 _).mono ?_; rintro e z10 ⟨rfl, y10⟩; first | have al := y10.kept al (fun h => h) | (have hq := sg.size; have al := y10.kept (heap_alloc_new _ _) (fun h => h)) | skip; have sg := hHeld.then y10 (fun _ h => h.elim)
            refine hK.out _ _ (hHeld.then y10 (fun _ h => h.elim)) (fun hHeld => ?_)
            clear hK K
            try simp only [Act.put, List.setIfInBounds_toArray, List.set_cons_zero, List.set_cons_succ]
            refine wpAnyH_take (i := 11) (oi := ⟨some 89, _, _, _, _, _⟩) (v := ?_) rfl (by kernel_rfl) (by kernel_rfl) (by kernel_rfl) (fun _ _ _ h => h) (Or.inl ⟨by rfl, ?_⟩) (by assumption) ?_
            rotate_left
            · (intro wq hSw; (try dsimp only at hSw); go_simp; try with_reducible rfl)
            try simp only [Act.put, List.setIfInBounds_toArray, List.set_cons_zero, List.set_cons_succ]
            refine wpAnyH_ready (rs := [12]) (by kernel_rfl) (by simp) ?_
            refine AllReadyH.cons (o := ⟨some 12, _, _, _, _, _⟩) rfl (fun K hK => ?_) AllReadyH.nil
            go_simp
            refine hK.out _ _ (hHeld.alloc _) (fun hHeld => ?_)
            clear hK K
            try simp only [Act.put, List.setIfInBounds_toArray, List.set_cons_zero, List.set_cons_succ]
            refine wpAnyH_ready (rs := [13]) (by kernel_rfl) (by simp) ?_
            refine AllReadyH.cons (o := ⟨none, _, _, _, _, _⟩) rfl (fun K hK => ?_) AllReadyH.nil
            first | (have da := cells4 al; go_simp) | go_simp
            refine hK.out _ _ (by first | exact sg.alloc _ | exact (((hHeld.set hq 0 _).set hq 1 _).set hq 2 _).set hq 3 _) (fun hHeld => ?_)
            clear hK K
            try simp only [Act.put, List.setIfInBounds_toArray, List.set_cons_zero, List.set_cons_succ]
            refine wpAnyH_done (by kernel_rfl) ?_ _
          rotate_left 1
          focus
            go_simp
            refine hK.out _ _ (hHeld.alloc _) (fun hHeld => ?_)
            clear hK K
            try simp only [Act.put, List.setIfInBounds_toArray, List.set_cons_zero, List.set_cons_succ]
            refine wpAnyH_ready (rs := [10]) (by kernel_rfl) (by simp) ?_
            refine AllReadyH.cons (o := ⟨some 88, _, _, _, _, _⟩) rfl (fun K hK => ?_) AllReadyH.nil
            go_simp
            refine (N2 _).mono ?_; rintro e z10 ⟨rfl, y10⟩; first | have al := y10.kept al (fun h => h) | (have hq := sg.size; have al := y10.kept (heap_alloc_new _ _) (fun h => h)) | skip; have sg := hHeld.then y10 (fun _ h => h.elim)
            refine hK.out _ _ (hHeld.then y10 (fun _ h => h.elim)) (fun hHeld => ?_)
            clear hK K
            try simp only [Act.put, List.setIfInBounds_toArray, List.set_cons_zero, List.set_cons_succ]
            refine wpAnyH_take (i := 11) (oi := ⟨some 89, _, _, _, _, _⟩) (v := ?_) rfl (by kernel_rfl) (by kernel_rfl) (by kernel_rfl) (fun _ _ _ h => h) (Or.inl ⟨by rfl, ?_⟩) (by assumption) ?_
            rotate_left
            · (intro wq hSw; (try dsimp only at hSw); go_simp; try with_reducible rfl)
            try simp only [Act.put, List.setIfInBounds_toArray, List.set_cons_zero, List.set_cons_succ]
            refine wpAnyH_ready (rs := [13]) (by kernel_rfl) (by simp) ?_
            refine AllReadyH.cons (o := ⟨none, _, _, _, _, _⟩) rfl (fun K hK => ?_) AllReadyH.nil
            first | (have da := cells4 al; go_simp) | go_simp
            refine hK.out _ _ (by first | exact sg.alloc _ | exact (((hHeld.set hq 0 _).set hq 1 _).set hq 2 _).set hq 3 _) (fun hHeld => ?_)
            clear hK K
            try simp only [Act.put, List.setIfInBounds_toArray, List.set_cons_zero, List.set_cons_succ]
            refine wpAnyH_done (by kernel_rfl) ?_ _
          rotate_left 1
        rotate_left 2
        focus
          go_simp
          refine hK.out _ _ (hHeld.alloc _) (fun hHeld => ?_)
          clear hK K
          try simp only [Act.put, List.setIfInBounds_toArray, List.set_cons_zero, List.set_cons_succ]
          refine wpAnyH_ready (rs := [7]) (by kernel_rfl) (by simp) ?_
          refine AllReadyH.cons (o := ⟨some 85, _, _, _, _, _⟩) rfl (fun K hK => ?_) AllReadyH.nil
          go_simp
          refine (N1 _).mono ?_; rintro e z7 ⟨rfl, y7⟩; first | have al := y7.kept al (fun h => h) | (have hq := sg.size; have al := y7.kept (heap_alloc_new _ _) (fun h => h)) | skip; have sg := hHeld.then y7 (fun _ h => h.elim)
          refine hK.out _ _ (hHeld.then y7 (fun _ h => h.elim)) (fun hHeld => ?_)
          clear hK K
          try simp only [Act.put, List.setIfInBounds_toArray, List.set_cons_zero, List.set_cons_succ]
          refine wpAnyH_ready (rs := [10]) (by kernel_rfl) (by simp) ?_
          refine AllReadyH.cons (o := ⟨some 88, _, _, _, _, _⟩) rfl (fun K hK => ?_) AllReadyH.nil
          go_simp
          refine (N2 _).mono ?_; rintro e z10 ⟨rfl, y10⟩; first | have al := y10.kept al (fun h => h) | (have hq := sg.size; have al := y10.kept (heap_alloc_new _ _) (fun h => h)) | skip; have sg := hHeld.then y10 (fun _ h => h.elim)
          refine hK.out _ _ (hHeld.then y10 (fun _ h => h.elim)) (fun hHeld => ?_)
          clear hK K
          try simp only [Act.put, List.setIfInBounds_toArray, List.set_cons_zero, List.set_cons_succ]
          refine wpAnyH_take (i := 11) (oi := ⟨some 89, _, _, _, _, _⟩) (v := ?_) rfl (by kernel_rfl) (by kernel_rfl) (by kernel_rfl) (fun _ _ _ h => h) (Or.inl ⟨by rfl, ?_⟩) (by assumption) ?_
          rotate_left
          · (intro wq hSw; (try dsimp only at hSw); go_simp; try with_reducible rfl)
          try simp only [Act.put, List.setIfInBounds_toArray, List.set_cons_zero, List.set_cons_succ]
          refine wpAnyH_ready (rs := [13]) (by kernel_rfl) (by simp) ?_
          refine AllReadyH.cons (o := ⟨none, _, _, _, _, _⟩) rfl (fun K hK => ?_) AllReadyH.nil
          first | (have da := cells4 al; go_simp) | go_simp
          refine hK.out _ _ (by first | exact sg.alloc _ | exact (((hHeld.set hq 0 _).set hq 1 _).set hq 2 _).set hq 3 _) (fun hHeld => ?_)
          clear hK K
          try simp only [Act.put, List.setIfInBounds_toArray, List.set_cons_zero, List.set_cons_succ]
          refine wpAnyH_done (by kernel_rfl) ?_ _
        rotate_left 1
      rotate_left 3
      focus
        go_simp
        refine hK.out _ _ (hHeld.alloc _) (fun hHeld => ?_)
        clear hK K
        try simp only [Act.put, List.setIfInBounds_toArray, List.set_cons_zero, List.set_cons_succ]
        refine wpAnyH_ready (rs := [2]) (by kernel_rfl) (by simp) ?_
        refine AllReadyH.cons (o := ⟨some 80, _, _, _, _, _⟩) rfl (fun K hK => ?_) AllReadyH.nil
        go_simp
        refine (D1 _).mono ?_; rintro e z2 ⟨rfl, y2⟩; first | have al := y2.kept al (fun h => h) | (have hq := sg.size; have al := y2.kept (heap_alloc_new _ _) (fun h => h)) | skip; have sg := hHeld.then y2 (fun _ h => h.elim)
        refine hK.out _ _ (hHeld.then y2 (fun _ h => h.elim)) (fun hHeld => ?_)
        clear hK K
        try simp only [Act.put, List.setIfInBounds_toArray, List.set_cons_zero, List.set_cons_succ]
        refine wpAnyH_ready (rs := [7]) (by kernel_rfl) (by simp) ?_
        refine AllReadyH.cons (o := ⟨some 85, _, _, _, _, _⟩) rfl (fun K hK => ?_) AllReadyH.nil
        go_simp
        refine (N1 _).mono ?_; rintro e z7 ⟨rfl, y7⟩; first | have al := y7.kept al (fun h => h) | (have hq := sg.size; have al := y7.kept (heap_alloc_new _ _) (fun h => h)) | skip; have sg := hHeld.then y7 (fun _ h => h.elim)
        refine hK.out _ _ (hHeld.then y7 (fun _ h => h.elim)) (fun hHeld => ?_)
        clear hK K
        try simp only [Act.put, List.setIfInBounds_toArray, List.set_cons_zero, List.set_cons_succ]
        refine wpAnyH_ready (rs := [10]) (by kernel_rfl) (by simp) ?_
        refine AllReadyH.cons (o := ⟨some 88, _, _, _, _, _⟩) rfl (fun K hK => ?_) AllReadyH.nil
        go_simp
        refine (N2 _).mono ?_; rintro e z10 ⟨rfl, y10⟩; first | have al := y10.kept al (fun h => h) | (have hq := sg.size; have al := y10.kept (heap_alloc_new _ _) (fun h => h)) | skip; have sg := hHeld.then y10 (fun _ h => h.elim)
        refine hK.out _ _ (hHeld.then y10 (fun _ h => h.elim)) (fun hHeld => ?_)
        clear hK K
        try simp only [Act.put, List.setIfInBounds_toArray, List.set_cons_zero, List.set_cons_succ]
        refine wpAnyH_take (i := 11) (oi := ⟨some 89, _, _, _, _, _⟩) (v := ?_) rfl (by kernel_rfl) (by kernel_rfl) (by kernel_rfl) (fun _ _ _ h => h) (Or.inl ⟨by rfl, ?_⟩) (by assumption) ?_
        rotate_left
        · (intro wq hSw; (try dsimp only at hSw); go_simp; try with_reducible rfl)
        try simp only [Act.put, List.setIfInBounds_toArray, List.set_cons_zero, List.set_cons_succ]
        refine wpAnyH_ready (rs := [13]) (by kernel_rfl) (by simp) ?_
        refine AllReadyH.cons (o := ⟨none, _, _, _, _, _⟩) rfl (fun K hK => ?_) AllReadyH.nil
        first | (have da := cells4 al; go_simp) | go_simp
        refine hK.out _ _ (by first | exact sg.alloc _ | exact (((hHeld.set hq 0 _).set hq 1 _).set hq 2 _).set hq 3 _) (fun hHeld => ?_)
        clear hK K
        try simp only [Act.put, List.setIfInBounds_toArray, List.set_cons_zero, List.set_cons_succ]
        refine wpAnyH_done (by kernel_rfl) ?_ _
      rotate_left 1
      all_goals
        go_wp2_with fail
        go_meet
        case rel =>
          have z1 := h7.new.size
          have z2 := sg.size
          first
            | (have al2 := al
               have hu := (((hHeld.size)))
               exact ⟨_, ⟨dnL (pk x.den 7), x.n, nmL (pk x.fr 6), nmL (pk x.to 6)⟩, rfl, Nat.le_trans z1 hq, i6, h7d.keep hHeld, a7d.keep hHeld, q7d.keep hHeld, ((((show c4 _ _ _ _ _ _ from al2).set0 _).set1 _).set2 _).set3 _⟩)
            | exact ⟨_, ⟨dnL (pk x.den 7), x.n, nmL (pk x.fr 6), nmL (pk x.to 6)⟩, rfl, Nat.le_trans z1 z2, i6, h7d.keep hHeld, a7d.keep hHeld, q7d.keep hHeld, heap_alloc_new _ _⟩
    case rest =>
      clear h7 a7 q7 D1 N1 N2 hA
      obtain ⟨Q3, c, rfl, hQ3, hcc, h8, a8, q8, p8⟩ := hcut
      have key : ∀ (raw : Bool), True := fun _ => trivial
      rcases raw with _ | _
      case' false =>
        go_upto_region 12 with (fail)
        have h9 := h8
        have a9 := a8
        have p9 := p8
        clear h8 a8 q8 p8 hcv
        revert h9 a9 p9
        generalize wc = w9
        intro h9 a9 p9
      case' true =>
        have dc := cells4 (show c4 _ _ _ _ _ _ from q8)
        have dd := cells4 (show c4 _ _ _ _ _ _ from p8)
        go_upto_region 12 with (fail)
        have kS : Keeps (fun k => k = Q3) wc ((((wc.setCell ⟨Q3, 0, none⟩ (.string ⟨coin.den.toArray⟩)).setCell ⟨Q3, 1, none⟩ (.int .u64 coin.amt)).setCell ⟨Q3, 2, none⟩ (.string ⟨coin.fr.toArray⟩)).setCell ⟨Q3, 3, none⟩ (.string ⟨coin.to.toArray⟩)) := ((((Keeps.refl (fun k => k = Q3) wc).set1 0 _).set1 1 _).set1 2 _).set1 3 _
        have h9 := h8.stored p8 hQ3 kS
        have a9 := a8.stored p8 kS
        have p9 : cn ((((wc.setCell ⟨Q3, 0, none⟩ (.string ⟨coin.den.toArray⟩)).setCell ⟨Q3, 1, none⟩ (.int .u64 coin.amt)).setCell ⟨Q3, 2, none⟩ (.string ⟨coin.fr.toArray⟩)).setCell ⟨Q3, 3, none⟩ (.string ⟨coin.to.toArray⟩)) Q3 coin := ((((show c4 _ _ _ _ _ _ from p8).set0 _).set1 _).set2 _).set3 _
        clear h8 a8 q8 p8 dc dd kS hcc c
        revert h9 a9 p9
        generalize (((wc.setCell ⟨Q3, 0, none⟩ (.string ⟨coin.den.toArray⟩)).setCell ⟨Q3, 1, none⟩ (.int .u64 coin.amt)).setCell ⟨Q3, 2, none⟩ (.string ⟨coin.fr.toArray⟩)).setCell ⟨Q3, 3, none⟩ (.string ⟨coin.to.toArray⟩) = w9
        intro h9 a9 p9
        obtain ⟨c, hcd⟩ : ∃ c, c = coin := ⟨_, rfl⟩
        rw [← hcd] at p9
        have hcc : U64 c.amt := by rw [hcd]; exact hcv
        clear hcd hcv
      all_goals
        clear key
        go_wp2_with fail
        refine (prCopy h9).mono ?_
        rintro e w10 ⟨b', rfl, h10, k10⟩
        have a10 := a9.kc k10
        have p10 := p9.kc k10
        clear h9 a9 p9 k10
        have da := act_cells a10
        have dp := p10.cells
        go_wp2_with fail
        refine (h10.actA (fun ma sa hb => step_any B ma sa n s x i0 i1 c hcc (by omega) _ hb)).mono ?_
        rintro e w11 ⟨rfl, h11, k11⟩
        have p11 := p10.kc k11
        have hno := fun h => st_no (s := s) (x := x) (c := c) h
        have hap := st_apart s x c hcc
        clear h10 a10 p10 k11 da dp
        generalize stE s x c = er at *
        generalize stS s x c = t at *
        by_cases he : er = 0
        · subst he
          clear hno
          go_wp2_with fail
          go_loopw [15] (fun i wr => ∃ k : Nat, k ≤ 6 ∧ i = .int .i64 k ∧ Pr w wr B b' (n + 2) t s ∧ cn wr Q3 c)
            (fun i _ => 6 - (intOf i).toNat)
          case atStart => exact ⟨0, by omega, rfl, h11, p11⟩
          case round =>
            clear h11 p11
            obtain ⟨k, hk, rfl, hy, py⟩ := hrel
            have hk0 : (0 : Int) ≤ (k : Int) := Int.natCast_nonneg _
            by_cases hk6 : k < 6
            · have DM := fun w => denom_any (k : Int) ⟨by omega, by omega⟩ w
              have hl1 := dnL_len (pk (k : Int) 7)
              generalize dnL (pk (k : Int) 7) = u at *
              go_wp2_with fail
              refine (DM _).mono ?_
              rintro e z1 ⟨rfl, y1⟩
              have hy1 := hy.keep y1
              have py1 := py.keep y1
              clear hy py y1 DM
              go_wp2_with fail
              refine (hy1.snd.sup u (by omega)).mono ?_
              rintro e z2 ⟨rfl, rfl⟩
              go_wp2_with fail
              refine (hy1.fst.sup u (by omega)).mono ?_
              rintro e z2 ⟨rfl, rfl⟩
              have hy := hy1
              have py := py1
              have da := py1.cells
              clear hy1 py1
              have hu := hap u
              unfold apart at hu
              generalize s.sup u = M at *
              generalize t.sup u = N at *
              have hwr : ∀ z : Int, IntKind.u64.wrap z = z % 18446744073709551616 := fun z => by unfold IntKind.wrap; simp [IntKind.signed, IntKind.bits]
              by_cases hMN : M = N
              · subst hMN
                clear hu hwr
                go_wp2_with fail
                go_loopw [19] (fun j wq => ∃ m : Nat, m ≤ 5 ∧ j = .int .i64 m ∧ Pr w wq B b' (n + 2) t s ∧ cn wq Q3 c)
                  (fun j _ => 5 - (intOf j).toNat)
                case atStart => exact ⟨0, by omega, rfl, hy, py⟩
                case round =>
                  clear hy py
                  obtain ⟨m, hm, rfl, hy, py⟩ := hrel
                  have hm0 : (0 : Int) ≤ (m : Int) := Int.natCast_nonneg _
                  by_cases hm5 : m < 5
                  · have NM := fun w => name_any (m : Int) ⟨by omega, by omega⟩ w
                    have hl2 := nmL_len (pk (m : Int) 6)
                    generalize nmL (pk (m : Int) 6) = a at *
                    go_wp2_with fail
                    go_roundw
                    case rel => exact ⟨m + 1, by omega, by go_num, hy, py⟩
                    case measure => simp [intOf]; omega
                  · go_wp2_with fail
                    go_roundw
                    case rel => exact ⟨k + 1, by omega, by go_num, hy, py⟩
                    case measure => simp [intOf]; omega
              · have hMi : ¬ (M : Int) = N := by omega
                have hMb : ((M : Int) != N) = true := by simp [hMi]
                by_cases h1 : ((M : Int) - N) % 18446744073709551616 = c.amt
                · have g1 : IntKind.u64.wrap ((M : Int) - N) = c.amt := by rw [hwr]; exact h1
                  clear hu hwr h1
                  go_wp2_with fail
                  go_loopw [19] (fun j wq => ∃ m : Nat, m ≤ 5 ∧ j = .int .i64 m ∧ Pr w wq B b' (n + 2) t s ∧ cn wq Q3 c)
                    (fun j _ => 5 - (intOf j).toNat)
                  case atStart => exact ⟨0, by omega, rfl, hy, py⟩
                  case round =>
                    clear hy py
                    obtain ⟨m, hm, rfl, hy, py⟩ := hrel
                    have hm0 : (0 : Int) ≤ (m : Int) := Int.natCast_nonneg _
                    by_cases hm5 : m < 5
                    · have NM := fun w => name_any (m : Int) ⟨by omega, by omega⟩ w
                      have hl2 := nmL_len (pk (m : Int) 6)
                      generalize nmL (pk (m : Int) 6) = a at *
                      go_wp2_with fail
                      go_roundw
                      case rel => exact ⟨m + 1, by omega, by go_num, hy, py⟩
                      case measure => simp [intOf]; omega
                    · go_wp2_with fail
                      go_roundw
                      case rel => exact ⟨k + 1, by omega, by go_num, hy, py⟩
                      case measure => simp [intOf]; omega
                · have h2 : ((N : Int) - M) % 18446744073709551616 = c.amt := by omega
                  have g2 : IntKind.u64.wrap ((N : Int) - M) = c.amt := by rw [hwr]; exact h2
                  have g1 : (IntKind.u64.wrap ((M : Int) - N) != (c.amt : Int)) = true := by rw [hwr]; simp [h1]
                  clear hu hwr h1 h2
                  go_wp2_with fail
                  go_loopw [19] (fun j wq => ∃ m : Nat, m ≤ 5 ∧ j = .int .i64 m ∧ Pr w wq B b' (n + 2) t s ∧ cn wq Q3 c)
                    (fun j _ => 5 - (intOf j).toNat)
                  case atStart => exact ⟨0, by omega, rfl, hy, py⟩
                  case round =>
                    clear hy py
                    obtain ⟨m, hm, rfl, hy, py⟩ := hrel
                    have hm0 : (0 : Int) ≤ (m : Int) := Int.natCast_nonneg _
                    by_cases hm5 : m < 5
                    · have NM := fun w => name_any (m : Int) ⟨by omega, by omega⟩ w
                      have hl2 := nmL_len (pk (m : Int) 6)
                      generalize nmL (pk (m : Int) 6) = a at *
                      go_wp2_with fail
                      go_roundw
                      case rel => exact ⟨m + 1, by omega, by go_num, hy, py⟩
                      case measure => simp [intOf]; omega
                    · go_wp2_with fail
                      go_roundw
                      case rel => exact ⟨k + 1, by omega, by go_num, hy, py⟩
                      case measure => simp [intOf]; omega
            · go_wp2_with fail
              go_ret
              exact ⟨rfl, hy.new⟩
        · obtain rfl := hno he
          clear hap hno
          have heb : (er == 0) = false := by simp [he]
          have hen : (er != 0) = true := by simp [he]
          go_wp2_with fail
          go_loopw [15] (fun i wr => ∃ k : Nat, k ≤ 6 ∧ i = .int .i64 k ∧ Pr w wr B b' (n + 2) t t ∧ cn wr Q3 c)
            (fun i _ => 6 - (intOf i).toNat)
          case atStart => exact ⟨0, by omega, rfl, h11, p11⟩
          case round =>
            clear h11 p11
            obtain ⟨k, hk, rfl, hy, py⟩ := hrel
            have hk0 : (0 : Int) ≤ (k : Int) := Int.natCast_nonneg _
            by_cases hk6 : k < 6
            · have DM := fun w => denom_any (k : Int) ⟨by omega, by omega⟩ w
              have hl1 := dnL_len (pk (k : Int) 7)
              generalize dnL (pk (k : Int) 7) = u at *
              go_wp2_with fail
              refine (DM _).mono ?_
              rintro e z1 ⟨rfl, y1⟩
              have hy1 := hy.keep y1
              have py1 := py.keep y1
              clear hy py y1 DM
              go_wp2_with fail
              refine (hy1.snd.sup u (by omega)).mono ?_
              rintro e z2 ⟨rfl, rfl⟩
              go_wp2_with fail
              refine (hy1.fst.sup u (by omega)).mono ?_
              rintro e z2 ⟨rfl, rfl⟩
              have hy := hy1
              have py := py1
              have da := py1.cells
              clear hy1 py1
              go_wp2_with fail
              go_loopw [19] (fun j wq => ∃ m : Nat, m ≤ 5 ∧ j = .int .i64 m ∧ Pr w wq B b' (n + 2) t t ∧ cn wq Q3 c)
                (fun j _ => 5 - (intOf j).toNat)
              case atStart => exact ⟨0, by omega, rfl, hy, py⟩
              case round =>
                clear hy py
                obtain ⟨m, hm, rfl, hy, py⟩ := hrel
                have hm0 : (0 : Int) ≤ (m : Int) := Int.natCast_nonneg _
                by_cases hm5 : m < 5
                · have NM := fun w => name_any (m : Int) ⟨by omega, by omega⟩ w
                  have hl2 := nmL_len (pk (m : Int) 6)
                  generalize nmL (pk (m : Int) 6) = a at *
                  go_wp2_with fail
                  refine (NM _).mono ?_
                  rintro e z1 ⟨rfl, y1⟩
                  have hy1 := hy.keep y1
                  have py1 := py.keep y1
                  go_wp2_with fail
                  refine (hy1.fst.bal u a (by omega) (by omega)).mono ?_
                  rintro e z2 ⟨rfl, rfl⟩
                  go_wp2_with fail
                  refine (NM _).mono ?_
                  rintro e z3 ⟨rfl, y3⟩
                  have hy := hy1.keep y3
                  have py := py1.keep y3
                  go_wp2_with fail
                  refine (hy.snd.bal u a (by omega) (by omega)).mono ?_
                  rintro e z4 ⟨rfl, rfl⟩
                  go_wp2_with fail
                  go_roundw
                  case rel => exact ⟨m + 1, by omega, by go_num, hy, py⟩
                  case measure => simp [intOf]; omega
                · go_wp2_with fail
                  go_roundw
                  case rel => exact ⟨k + 1, by omega, by go_num, hy, py⟩
                  case measure => simp [intOf]; omega
            · go_wp2_with fail
              go_ret
              exact ⟨rfl, hy.new⟩
end Go.Proofs.Ytcldbipipehedaa
