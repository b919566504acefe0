/-
  voussoirlaw10.BankRefuses: the walk.
-/
import Derived.Test.YtcldbipipehedaaBOp
import Derived.Test.YtcldbipipehedaaBkR
namespace Go.Proofs.Ytcldbipipehedaa
open Go.RowKit Go.ChangeMaps
set_option maxHeartbeats 16000000 in
set_option maxRecDepth 100000 in
theorem refuses_walk (A : Option Addr) (len cap : Nat) (la : List A10) (x : A10) (w : World)
    (hla : la.length = len) (h63 : len ≤ 9223372036854775807) (hA : A10At w A la) (hx : okA x) :
    Calls Try.prog 11 #[.slice A len cap, .agg #[.int .i64 x.what, .int .i64 x.fr, .int .i64 x.to, .int .i64 x.den, .int .u64 (x.n : Nat)]] w fun e w' => e = .returned (.bool true) ∧ New w w' := by
  have n2 : New w (w.alloc (.cells #[.int .i64 x.what, .int .i64 x.fr, .int .i64 x.to, .int .i64 x.den, .int .u64 (x.n : Nat)] 69)) := (New.refl w).alloc _
  have a2 : aB (w.alloc (.cells #[.int .i64 x.what, .int .i64 x.fr, .int .i64 x.to, .int .i64 x.den, .int .u64 (x.n : Nat)] 69)) w.heap.size x := heap_alloc_new w _
  have hq2 : w.heap.size ≤ w.heap.size := Nat.le_refl _
  go_enter Try.func11, Try.ntmps11
  go_upto_region 1 with (fail)
  revert n2 a2 hq2
  generalize (w.alloc (.cells #[.int .i64 x.what, .int .i64 x.fr, .int .i64 x.to, .int .i64 x.den, .int .u64 (x.n : Nat)] 69)) = w2
  generalize hQ1 : w.heap.size = Q1
  intro n2 a2 hq2
  replace hq2 : w.heap.size ≤ Q1 := by rw [hQ1]; exact hq2
  clear hQ1
  go_wp2_with fail
  refine (awakeB_any _).mono ?_
  rintro e w3 ⟨rfl, k3⟩
  have a3 := a2.keep k3
  have n3 := n2.then k3 (fun _ h => h.elim)
  clear a2 n2 k3
  go_wp2_with fail
  refine (sgNewC n3).mono ?_
  rintro e w4 ⟨B, rfl, h4, k4⟩
  have a4 := a3.kc k4
  clear a3 n3 k4
  have s4 := sumI_empty
  generalize emptyB = s0 at *
  go_upto_block 0 with (fail)
  go_cut [] (fun wx => ∃ (n : Nat) (s : BkS), n ≤ 100 ∧ SumI s ∧ Sg w wx B n s ∧ aB wx Q1 x)
  case first =>
    go_wp2_with fail
    go_loopw [7] (fun i wr => ∃ (k n : Nat) (s : BkS), k ≤ len ∧ k ≤ 50 ∧ n ≤ 2 * k ∧ i = .int .i64 k ∧ SumI s ∧ Sg w wr B n s ∧ aB wr Q1 x)
      (fun i _ => 50 - (intOf i).toNat)
    case atStart => exact ⟨0, 0, s0, by omega, by omega, by omega, rfl, s4, h4, a4⟩
    case round =>
      clear h4 a4 s4
      obtain ⟨k, n, s, hk, hk50, hn, rfl, s7, h7, a7⟩ := hrel
      have hk0 : (0 : Int) ≤ (k : Int) := Int.natCast_nonneg _
      by_cases hlt : k < len
      · by_cases hlt2 : k < 50
        · obtain ⟨bA, oA, rfl, hbA, oy, c0, c1, c2, c3, c4⟩ := hA k la[k] (List.getElem?_eq_getElem (by omega))
          generalize la[k] = y at *
          have hk1 : (k : Int) < (len : Int) := by omega
          have nw := h7.new
          have d0 := (nw.cell (p := ⟨bA, oA + k * 5, none⟩) hbA (fun h => h)).trans c0
          have d1 := (nw.cell (p := ⟨bA, oA + k * 5 + 1, none⟩) hbA (fun h => h)).trans c1
          have d2 := (nw.cell (p := ⟨bA, oA + k * 5 + 2, none⟩) hbA (fun h => h)).trans c2
          have d3 := (nw.cell (p := ⟨bA, oA + k * 5 + 3, none⟩) hbA (fun h => h)).trans c3
          have d4 := (nw.cell (p := ⟨bA, oA + k * 5 + 4, none⟩) hbA (fun h => h)).trans c4
          go_wp2_with fail
          refine (h7.act (fun ma sa hb => does_any B ma sa n s y oy (by omega) _ hb)).mono ?_
          rintro e w8 ⟨rfl, h8, k8⟩
          have a8 := a7.kc k8
          go_wp2_with fail
          go_roundw
          case rel => exact ⟨k + 1, n + 2, _, by omega, by omega, by omega, by go_num, s7.does y, h8, a8⟩
          case measure => simp [intOf]; omega
        · go_wp2_with fail
          go_meet
          case rel => exact ⟨n, s, by omega, s7, h7, a7⟩
      · go_wp2_with fail
        go_meet
        case rel => exact ⟨n, s, by omega, s7, h7, a7⟩
  case rest =>
    clear h4 a4 s4 hA
    obtain ⟨n, s, hn, s7, h7, a7⟩ := hcut
    go_wp2_with fail
    refine (prCopy h7).mono ?_
    rintro e w10 ⟨b', rfl, h10, k10⟩
    have a10 := a7.kc k10
    clear h7 a7 k10
    have da := a10.cells
    go_wp2_with fail
    refine (h10.actB (fun mb sb hb => does_any b' mb sb n s x hx (by omega) _ hb)).mono ?_
    rintro e w11 ⟨rfl, h11, k11⟩
    have a11 := a10.kc k11
    clear h10 a10 da k11
    have hno := fun h => ds_no (s := s) (x := x) h
    have hyes := fun h => ds_want (s := s) (x := x) h
    generalize dsE s x = E at *
    generalize dsS s x = t at *
    by_cases hE : E = 0
    · subst hE
      replace hyes := hyes rfl
      clear hno
      obtain ⟨i0, i1, i2, i3, i4⟩ := hx
      have P1 := fun w => pickB_any x.what 6 w i0 (by omega) (by omega)
      have hkk := pk_lt x.what 6 (by omega)
      have AF := fun w => account_any x.fr i1 w
      have AT := fun w => account_any x.to i2 w
      have DX := fun w => denomB_any x.den i3 w
      generalize acL (pk x.fr 5) = fr at *
      generalize acL (pk x.to 5) = tw at *
      generalize dbL (pk x.den 4) = v at *
      generalize pk x.what 6 = kk at *
      have ltn := i4.lt
      go_wp2_with fail
      go_loopw [10] (fun i wr => ∃ k : Nat, k ≤ 4 ∧ i = .int .i64 k ∧ Pr w wr B b' (n + 2) s t ∧ aB wr Q1 x)
        (fun i _ => 4 - (intOf i).toNat)
      case atStart => exact ⟨0, by omega, rfl, h11, a11⟩
      case round =>
        clear h11 a11
        obtain ⟨k, hk, rfl, hy, ay⟩ := hrel
        have hk0 : (0 : Int) ≤ (k : Int) := Int.natCast_nonneg _
        by_cases hk4 : k < 4
        · have DM := fun w => denomB_any (k : Int) ⟨by omega, by omega⟩ w
          have hl1 := dbL_len9 (pk (k : Int) 4)
          generalize dbL (pk (k : Int) 4) = d at *
          go_wp2_with fail
          have hk4h := Lib.hid hk4
          clear hk4
          have hk4d : decide ((k : Int) < 4) = true := by have := hk4h.out; simp; omega
          simp only [hk4d]
          go_loopw [11] (fun i wr => ∃ m : Nat, m ≤ 5 ∧ i = .int .i64 m ∧ Pr w wr B b' (n + 2) s t ∧ aB wr Q1 x)
            (fun i _ => 5 - (intOf i).toNat)
          case atStart => exact ⟨0, by omega, rfl, hy, ay⟩
          case round =>
            clear hy ay
            obtain ⟨m, hm, rfl, hy, ay⟩ := hrel
            have hm0 : (0 : Int) ≤ (m : Int) := Int.natCast_nonneg _
            by_cases hm5 : m < 5
            · have AM := fun w => account_any (m : Int) ⟨by omega, by omega⟩ w
              have hl2 := acL_len9 (pk (m : Int) 5)
              generalize acL (pk (m : Int) 5) = z at *
              replace hyes := hyes d z
              go_upto_region 21 with (fail)
              go_cut [12] from 55 to 128 (fun bv wx => bv = .bool (z == fr && d == v) ∧ Pr w wx B b' (n + 2) s t ∧ aB wx Q1 x)
              case first =>
                have hyd := hy.drew
                have ayd := ay.drew
                clear hy ay
                by_cases hz : z = fr
                · subst hz
                  refine wp_region_held_drew (S := (fun w' => aB w' Q1 x)) (by kernel_rfl) ?_ (fun hHeld => ?_)
                  · exact ayd
                  refine wpAnyH_take (i := 0) (oi := ⟨some 59, _, _, _, _, _⟩) (v := ?_) rfl (by kernel_rfl) (by kernel_rfl) (by kernel_rfl) (fun _ _ _ h => h) (Or.inl ⟨by rfl, ?_⟩) (by assumption) ?_
                  rotate_left
                  · (intro wq hSw; (try dsimp only at hSw); go_simp; try with_reducible rfl)
                  try simp only [Act.put, List.setIfInBounds_toArray, List.set_cons_zero, List.set_cons_succ]
                  refine wpAnyH_take (i := 2) (oi := ⟨some 61, _, _, _, _, _⟩) (v := ?_) rfl (by kernel_rfl) (by kernel_rfl) (by kernel_rfl) (fun _ _ _ h => h) (Or.inl ⟨by rfl, ?_⟩) (by assumption) ?_
                  rotate_left
                  · (intro wq hSw; (try dsimp only at hSw); go_simp; try with_reducible rfl)
                  try simp only [Act.put, List.setIfInBounds_toArray, List.set_cons_zero, List.set_cons_succ]
                  refine wpAnyH_take (i := 3) (oi := ⟨some 62, _, _, _, _, _⟩) (v := ?_) rfl (by kernel_rfl) (by kernel_rfl) (by kernel_rfl) (fun _ _ _ h => h) (Or.inl ⟨by rfl, ?_⟩) (by assumption) ?_
                  rotate_left
                  · (intro wq hSw; (try dsimp only at hSw); have d := hSw.cells; go_simp; try with_reducible rfl)
                  try simp only [Act.put, List.setIfInBounds_toArray, List.set_cons_zero, List.set_cons_succ]
                  refine wpAnyH_ready (rs := [1]) (by kernel_rfl) (by simp) ?_
                  refine AllReadyH.cons (o := ⟨some 60, _, _, _, _, _⟩) rfl (fun K hK => ?_) AllReadyH.nil
                  go_simp
                  refine (AM _).mono ?_; rintro e z1 ⟨rfl, y1⟩; have g1 := hyd.keep y1
                  refine hK.out _ _ (hHeld.keep y1) (fun hHeld => ?_)
                  clear hK K
                  try simp only [Act.put, List.setIfInBounds_toArray, List.set_cons_zero, List.set_cons_succ]
                  refine wpAnyH_ready (rs := [4]) (by kernel_rfl) (by simp) ?_
                  refine AllReadyH.cons (o := ⟨some 63, _, _, _, _, _⟩) rfl (fun K hK => ?_) AllReadyH.nil
                  go_simp
                  refine (AF _).mono ?_; rintro e z4 ⟨rfl, y4⟩; have g4 := g1.keep y4
                  refine hK.out _ _ (hHeld.keep y4) (fun hHeld => ?_)
                  clear hK K
                  try simp only [Act.put, List.setIfInBounds_toArray, List.set_cons_zero, List.set_cons_succ]
                  refine wpAnyH_take (i := 5) (oi := ⟨some 64, _, _, _, _, _⟩) (v := ?_) rfl (by kernel_rfl) (by kernel_rfl) (by kernel_rfl) (fun _ _ _ h => h) (Or.inl ⟨by rfl, ?_⟩) (by assumption) ?_
                  rotate_left
                  · (intro wq hSw; (try dsimp only at hSw); go_simp; try with_reducible rfl)
                  try simp only [Act.put, List.setIfInBounds_toArray, List.set_cons_zero, List.set_cons_succ]
                  refine wpAnyH_take (i := 6) (oi := ⟨some 65, _, _, _, _, _⟩) (v := ?_) rfl (by kernel_rfl) (by kernel_rfl) (by kernel_rfl) (fun _ _ _ h => h) (Or.inl ⟨by rfl, ?_⟩) (by assumption) ?_
                  rotate_left
                  · (intro wq hSw; (try dsimp only at hSw); go_simp; try with_reducible rfl)
                  try simp only [Act.put, List.setIfInBounds_toArray, List.set_cons_zero, List.set_cons_succ]
                  refine wpAnyH_take (i := 7) (oi := ⟨some 66, _, _, _, _, _⟩) (v := ?_) rfl (by kernel_rfl) (by kernel_rfl) (by kernel_rfl) (fun _ _ _ h => h) (Or.inl ⟨by rfl, ?_⟩) (by assumption) ?_
                  rotate_left
                  · (intro wq hSw; (try dsimp only at hSw); go_simp; try with_reducible rfl)
                  try simp only [Act.put, List.setIfInBounds_toArray, List.set_cons_zero, List.set_cons_succ]
                  refine wpAnyH_take (i := 9) (oi := ⟨some 68, _, _, _, _, _⟩) (v := ?_) rfl (by kernel_rfl) (by kernel_rfl) (by kernel_rfl) (fun _ _ _ h => h) (Or.inl ⟨by rfl, ?_⟩) (by assumption) ?_
                  rotate_left
                  · (intro wq hSw; (try dsimp only at hSw); go_simp; try with_reducible rfl)
                  try simp only [Act.put, List.setIfInBounds_toArray, List.set_cons_zero, List.set_cons_succ]
                  refine wpAnyH_take (i := 10) (oi := ⟨some 69, _, _, _, _, _⟩) (v := ?_) rfl (by kernel_rfl) (by kernel_rfl) (by kernel_rfl) (fun _ _ _ h => h) (Or.inl ⟨by rfl, ?_⟩) (by assumption) ?_
                  rotate_left
                  · (intro wq hSw; (try dsimp only at hSw); have d := hSw.cells; go_simp; try with_reducible rfl)
                  try simp only [Act.put, List.setIfInBounds_toArray, List.set_cons_zero, List.set_cons_succ]
                  refine wpAnyH_ready (rs := [8]) (by kernel_rfl) (by simp) ?_
                  refine AllReadyH.cons (o := ⟨some 67, _, _, _, _, _⟩) rfl (fun K hK => ?_) AllReadyH.nil
                  go_simp
                  refine (DM _).mono ?_; rintro e z8 ⟨rfl, y8⟩; have g8 := g4.keep y8
                  refine hK.out _ _ (hHeld.keep y8) (fun hHeld => ?_)
                  clear hK K
                  try simp only [Act.put, List.setIfInBounds_toArray, List.set_cons_zero, List.set_cons_succ]
                  refine wpAnyH_ready (rs := [11]) (by kernel_rfl) (by simp) ?_
                  refine AllReadyH.cons (o := ⟨some 70, _, _, _, _, _⟩) rfl (fun K hK => ?_) AllReadyH.nil
                  go_simp
                  refine (DX _).mono ?_; rintro e z11 ⟨rfl, y11⟩; have g11 := g8.keep y11
                  refine hK.out _ _ (hHeld.keep y11) (fun hHeld => ?_)
                  clear hK K
                  try simp only [Act.put, List.setIfInBounds_toArray, List.set_cons_zero, List.set_cons_succ]
                  refine wpAnyH_take (i := 12) (oi := ⟨some 71, _, _, _, _, _⟩) (v := ?_) rfl (by kernel_rfl) (by kernel_rfl) (by kernel_rfl) (fun _ _ _ h => h) (Or.inl ⟨by rfl, ?_⟩) (by assumption) ?_
                  rotate_left
                  · (intro wq hSw; (try dsimp only at hSw); go_simp; try with_reducible rfl)
                  try simp only [Act.put, List.setIfInBounds_toArray, List.set_cons_zero, List.set_cons_succ]
                  refine wpAnyH_take (i := 13) (oi := ⟨some 72, _, _, _, _, _⟩) (v := ?_) rfl (by kernel_rfl) (by kernel_rfl) (by kernel_rfl) (fun _ _ _ h => h) (Or.inl ⟨by rfl, ?_⟩) (by assumption) ?_
                  rotate_left
                  · (intro wq hSw; (try dsimp only at hSw); go_simp; try with_reducible rfl)
                  try simp only [Act.put, List.setIfInBounds_toArray, List.set_cons_zero, List.set_cons_succ]
                  refine wpAnyH_take (i := 14) (oi := ⟨some 12, _, _, _, _, _⟩) (v := ?_) rfl (by kernel_rfl) (by kernel_rfl) (by kernel_rfl) (fun _ _ _ h => h) (Or.inl ⟨by rfl, ?_⟩) (by assumption) ?_
                  rotate_left
                  · (intro wq hSw; (try dsimp only at hSw); go_simp; try with_reducible rfl)
                  try simp only [Act.put, List.setIfInBounds_toArray, List.set_cons_zero, List.set_cons_succ]
                  refine wpAnyH_done (by kernel_rfl) ?_ _
                  go_wp2_with fail
                  go_meet
                  case rel => exact ⟨by simp, g11, hHeld⟩
                · have e1 : (z == fr) = false := by simpa using hz
                  refine wp_region_held_drew (S := (fun w' => aB w' Q1 x)) (by kernel_rfl) ?_ (fun hHeld => ?_)
                  · exact ayd
                  refine wpAnyH_take (i := 0) (oi := ⟨some 59, _, _, _, _, _⟩) (v := ?_) rfl (by kernel_rfl) (by kernel_rfl) (by kernel_rfl) (fun _ _ _ h => h) (Or.inl ⟨by rfl, ?_⟩) (by assumption) ?_
                  rotate_left
                  · (intro wq hSw; (try dsimp only at hSw); go_simp; try with_reducible rfl)
                  try simp only [Act.put, List.setIfInBounds_toArray, List.set_cons_zero, List.set_cons_succ]
                  refine wpAnyH_take (i := 2) (oi := ⟨some 61, _, _, _, _, _⟩) (v := ?_) rfl (by kernel_rfl) (by kernel_rfl) (by kernel_rfl) (fun _ _ _ h => h) (Or.inl ⟨by rfl, ?_⟩) (by assumption) ?_
                  rotate_left
                  · (intro wq hSw; (try dsimp only at hSw); go_simp; try with_reducible rfl)
                  try simp only [Act.put, List.setIfInBounds_toArray, List.set_cons_zero, List.set_cons_succ]
                  refine wpAnyH_take (i := 3) (oi := ⟨some 62, _, _, _, _, _⟩) (v := ?_) rfl (by kernel_rfl) (by kernel_rfl) (by kernel_rfl) (fun _ _ _ h => h) (Or.inl ⟨by rfl, ?_⟩) (by assumption) ?_
                  rotate_left
                  · (intro wq hSw; (try dsimp only at hSw); have d := hSw.cells; go_simp; try with_reducible rfl)
                  try simp only [Act.put, List.setIfInBounds_toArray, List.set_cons_zero, List.set_cons_succ]
                  refine wpAnyH_ready (rs := [1]) (by kernel_rfl) (by simp) ?_
                  refine AllReadyH.cons (o := ⟨some 60, _, _, _, _, _⟩) rfl (fun K hK => ?_) AllReadyH.nil
                  go_simp
                  refine (AM _).mono ?_; rintro e z1 ⟨rfl, y1⟩; have g1 := hyd.keep y1
                  refine hK.out _ _ (hHeld.keep y1) (fun hHeld => ?_)
                  clear hK K
                  try simp only [Act.put, List.setIfInBounds_toArray, List.set_cons_zero, List.set_cons_succ]
                  refine wpAnyH_ready (rs := [4]) (by kernel_rfl) (by simp) ?_
                  refine AllReadyH.cons (o := ⟨some 63, _, _, _, _, _⟩) rfl (fun K hK => ?_) AllReadyH.nil
                  go_simp
                  refine (AF _).mono ?_; rintro e z4 ⟨rfl, y4⟩; have g4 := g1.keep y4
                  refine hK.out _ _ (hHeld.keep y4) (fun hHeld => ?_)
                  clear hK K
                  try simp only [Act.put, List.setIfInBounds_toArray, List.set_cons_zero, List.set_cons_succ]
                  refine wpAnyH_take (i := 5) (oi := ⟨some 64, _, _, _, _, _⟩) (v := ?_) rfl (by kernel_rfl) (by kernel_rfl) (by kernel_rfl) (fun _ _ _ h => h) (Or.inl ⟨by rfl, ?_⟩) (by assumption) ?_
                  rotate_left
                  · (intro wq hSw; (try dsimp only at hSw); go_simp; try with_reducible rfl)
                  try simp only [Act.put, List.setIfInBounds_toArray, List.set_cons_zero, List.set_cons_succ]
                  refine wpAnyH_take (i := 6) (oi := ⟨some 65, _, _, _, _, _⟩) (v := ?_) rfl (by kernel_rfl) (by kernel_rfl) (by kernel_rfl) (fun _ _ _ h => h) (Or.inl ⟨by rfl, ?_⟩) (by assumption) ?_
                  rotate_left
                  · (intro wq hSw; (try dsimp only at hSw); go_simp; try with_reducible rfl)
                  try simp only [Act.put, List.setIfInBounds_toArray, List.set_cons_zero, List.set_cons_succ]
                  refine wpAnyH_take (i := 7) (oi := ⟨some 66, _, _, _, _, _⟩) (v := undef) rfl (by kernel_rfl) (by kernel_rfl) (by kernel_rfl) (fun _ _ _ h => h) (Or.inr ⟨by rfl, rfl⟩) (by assumption) ?_
                  try simp only [Act.put, List.setIfInBounds_toArray, List.set_cons_zero, List.set_cons_succ]
                  refine wpAnyH_take (i := 8) (oi := ⟨some 67, _, _, _, _, _⟩) (v := undef) rfl (by kernel_rfl) (by kernel_rfl) (by kernel_rfl) (fun _ _ _ h => h) (Or.inr ⟨by rfl, rfl⟩) (by assumption) ?_
                  try simp only [Act.put, List.setIfInBounds_toArray, List.set_cons_zero, List.set_cons_succ]
                  refine wpAnyH_take (i := 9) (oi := ⟨some 68, _, _, _, _, _⟩) (v := undef) rfl (by kernel_rfl) (by kernel_rfl) (by kernel_rfl) (fun _ _ _ h => h) (Or.inr ⟨by rfl, rfl⟩) (by assumption) ?_
                  try simp only [Act.put, List.setIfInBounds_toArray, List.set_cons_zero, List.set_cons_succ]
                  refine wpAnyH_take (i := 10) (oi := ⟨some 69, _, _, _, _, _⟩) (v := undef) rfl (by kernel_rfl) (by kernel_rfl) (by kernel_rfl) (fun _ _ _ h => h) (Or.inr ⟨by rfl, rfl⟩) (by assumption) ?_
                  try simp only [Act.put, List.setIfInBounds_toArray, List.set_cons_zero, List.set_cons_succ]
                  refine wpAnyH_take (i := 11) (oi := ⟨some 70, _, _, _, _, _⟩) (v := undef) rfl (by kernel_rfl) (by kernel_rfl) (by kernel_rfl) (fun _ _ _ h => h) (Or.inr ⟨by rfl, rfl⟩) (by assumption) ?_
                  try simp only [Act.put, List.setIfInBounds_toArray, List.set_cons_zero, List.set_cons_succ]
                  refine wpAnyH_take (i := 12) (oi := ⟨some 71, _, _, _, _, _⟩) (v := undef) rfl (by kernel_rfl) (by kernel_rfl) (by kernel_rfl) (fun _ _ _ h => h) (Or.inr ⟨by rfl, rfl⟩) (by assumption) ?_
                  try simp only [Act.put, List.setIfInBounds_toArray, List.set_cons_zero, List.set_cons_succ]
                  refine wpAnyH_take (i := 13) (oi := ⟨some 72, _, _, _, _, _⟩) (v := ?_) rfl (by kernel_rfl) (by kernel_rfl) (by kernel_rfl) (fun _ _ _ h => h) (Or.inl ⟨by rfl, ?_⟩) (by assumption) ?_
                  rotate_left
                  · (intro wq hSw; (try dsimp only at hSw); go_simp; try with_reducible rfl)
                  try simp only [Act.put, List.setIfInBounds_toArray, List.set_cons_zero, List.set_cons_succ]
                  refine wpAnyH_take (i := 14) (oi := ⟨some 12, _, _, _, _, _⟩) (v := ?_) rfl (by kernel_rfl) (by kernel_rfl) (by kernel_rfl) (fun _ _ _ h => h) (Or.inl ⟨by rfl, ?_⟩) (by assumption) ?_
                  rotate_left
                  · (intro wq hSw; (try dsimp only at hSw); go_simp; try with_reducible rfl)
                  try simp only [Act.put, List.setIfInBounds_toArray, List.set_cons_zero, List.set_cons_succ]
                  refine wpAnyH_done (by kernel_rfl) ?_ _
                  go_wp2_with fail
                  go_meet
                  case rel => exact ⟨by rw [e1]; rfl, g4, hHeld⟩
              case rest =>
                clear hy ay
                obtain ⟨rfl, hy, ay⟩ := hcut
                go_upto_region 22 with (fail)
                go_cut [13] from 55 to 128 (fun bv wx => bv = .bool (z == tw && d == v) ∧ Pr w wx B b' (n + 2) s t ∧ aB wx Q1 x)
                case first =>
                  have hyd := hy.drew
                  have ayd := ay.drew
                  clear hy ay
                  by_cases hz : z = tw
                  · subst hz
                    refine wp_region_held_drew (S := (fun w' => aB w' Q1 x)) (by kernel_rfl) ?_ (fun hHeld => ?_)
                    · exact ayd
                    refine wpAnyH_take (i := 0) (oi := ⟨some 73, _, _, _, _, _⟩) (v := ?_) rfl (by kernel_rfl) (by kernel_rfl) (by kernel_rfl) (fun _ _ _ h => h) (Or.inl ⟨by rfl, ?_⟩) (by assumption) ?_
                    rotate_left
                    · (intro wq hSw; (try dsimp only at hSw); go_simp; try with_reducible rfl)
                    try simp only [Act.put, List.setIfInBounds_toArray, List.set_cons_zero, List.set_cons_succ]
                    refine wpAnyH_take (i := 2) (oi := ⟨some 75, _, _, _, _, _⟩) (v := ?_) rfl (by kernel_rfl) (by kernel_rfl) (by kernel_rfl) (fun _ _ _ h => h) (Or.inl ⟨by rfl, ?_⟩) (by assumption) ?_
                    rotate_left
                    · (intro wq hSw; (try dsimp only at hSw); go_simp; try with_reducible rfl)
                    try simp only [Act.put, List.setIfInBounds_toArray, List.set_cons_zero, List.set_cons_succ]
                    refine wpAnyH_take (i := 3) (oi := ⟨some 76, _, _, _, _, _⟩) (v := ?_) rfl (by kernel_rfl) (by kernel_rfl) (by kernel_rfl) (fun _ _ _ h => h) (Or.inl ⟨by rfl, ?_⟩) (by assumption) ?_
                    rotate_left
                    · (intro wq hSw; (try dsimp only at hSw); have d := hSw.cells; go_simp; try with_reducible rfl)
                    try simp only [Act.put, List.setIfInBounds_toArray, List.set_cons_zero, List.set_cons_succ]
                    refine wpAnyH_ready (rs := [1]) (by kernel_rfl) (by simp) ?_
                    refine AllReadyH.cons (o := ⟨some 74, _, _, _, _, _⟩) rfl (fun K hK => ?_) AllReadyH.nil
                    go_simp
                    refine (AM _).mono ?_; rintro e z1 ⟨rfl, y1⟩; have g1 := hyd.keep y1
                    refine hK.out _ _ (hHeld.keep y1) (fun hHeld => ?_)
                    clear hK K
                    try simp only [Act.put, List.setIfInBounds_toArray, List.set_cons_zero, List.set_cons_succ]
                    refine wpAnyH_ready (rs := [4]) (by kernel_rfl) (by simp) ?_
                    refine AllReadyH.cons (o := ⟨some 77, _, _, _, _, _⟩) rfl (fun K hK => ?_) AllReadyH.nil
                    go_simp
                    refine (AT _).mono ?_; rintro e z4 ⟨rfl, y4⟩; have g4 := g1.keep y4
                    refine hK.out _ _ (hHeld.keep y4) (fun hHeld => ?_)
                    clear hK K
                    try simp only [Act.put, List.setIfInBounds_toArray, List.set_cons_zero, List.set_cons_succ]
                    refine wpAnyH_take (i := 5) (oi := ⟨some 78, _, _, _, _, _⟩) (v := ?_) rfl (by kernel_rfl) (by kernel_rfl) (by kernel_rfl) (fun _ _ _ h => h) (Or.inl ⟨by rfl, ?_⟩) (by assumption) ?_
                    rotate_left
                    · (intro wq hSw; (try dsimp only at hSw); go_simp; try with_reducible rfl)
                    try simp only [Act.put, List.setIfInBounds_toArray, List.set_cons_zero, List.set_cons_succ]
                    refine wpAnyH_take (i := 6) (oi := ⟨some 79, _, _, _, _, _⟩) (v := ?_) rfl (by kernel_rfl) (by kernel_rfl) (by kernel_rfl) (fun _ _ _ h => h) (Or.inl ⟨by rfl, ?_⟩) (by assumption) ?_
                    rotate_left
                    · (intro wq hSw; (try dsimp only at hSw); go_simp; try with_reducible rfl)
                    try simp only [Act.put, List.setIfInBounds_toArray, List.set_cons_zero, List.set_cons_succ]
                    refine wpAnyH_take (i := 7) (oi := ⟨some 80, _, _, _, _, _⟩) (v := ?_) rfl (by kernel_rfl) (by kernel_rfl) (by kernel_rfl) (fun _ _ _ h => h) (Or.inl ⟨by rfl, ?_⟩) (by assumption) ?_
                    rotate_left
                    · (intro wq hSw; (try dsimp only at hSw); go_simp; try with_reducible rfl)
                    try simp only [Act.put, List.setIfInBounds_toArray, List.set_cons_zero, List.set_cons_succ]
                    refine wpAnyH_take (i := 9) (oi := ⟨some 82, _, _, _, _, _⟩) (v := ?_) rfl (by kernel_rfl) (by kernel_rfl) (by kernel_rfl) (fun _ _ _ h => h) (Or.inl ⟨by rfl, ?_⟩) (by assumption) ?_
                    rotate_left
                    · (intro wq hSw; (try dsimp only at hSw); go_simp; try with_reducible rfl)
                    try simp only [Act.put, List.setIfInBounds_toArray, List.set_cons_zero, List.set_cons_succ]
                    refine wpAnyH_take (i := 10) (oi := ⟨some 83, _, _, _, _, _⟩) (v := ?_) rfl (by kernel_rfl) (by kernel_rfl) (by kernel_rfl) (fun _ _ _ h => h) (Or.inl ⟨by rfl, ?_⟩) (by assumption) ?_
                    rotate_left
                    · (intro wq hSw; (try dsimp only at hSw); have d := hSw.cells; go_simp; try with_reducible rfl)
                    try simp only [Act.put, List.setIfInBounds_toArray, List.set_cons_zero, List.set_cons_succ]
                    refine wpAnyH_ready (rs := [8]) (by kernel_rfl) (by simp) ?_
                    refine AllReadyH.cons (o := ⟨some 81, _, _, _, _, _⟩) rfl (fun K hK => ?_) AllReadyH.nil
                    go_simp
                    refine (DM _).mono ?_; rintro e z8 ⟨rfl, y8⟩; have g8 := g4.keep y8
                    refine hK.out _ _ (hHeld.keep y8) (fun hHeld => ?_)
                    clear hK K
                    try simp only [Act.put, List.setIfInBounds_toArray, List.set_cons_zero, List.set_cons_succ]
                    refine wpAnyH_ready (rs := [11]) (by kernel_rfl) (by simp) ?_
                    refine AllReadyH.cons (o := ⟨some 84, _, _, _, _, _⟩) rfl (fun K hK => ?_) AllReadyH.nil
                    go_simp
                    refine (DX _).mono ?_; rintro e z11 ⟨rfl, y11⟩; have g11 := g8.keep y11
                    refine hK.out _ _ (hHeld.keep y11) (fun hHeld => ?_)
                    clear hK K
                    try simp only [Act.put, List.setIfInBounds_toArray, List.set_cons_zero, List.set_cons_succ]
                    refine wpAnyH_take (i := 12) (oi := ⟨some 85, _, _, _, _, _⟩) (v := ?_) rfl (by kernel_rfl) (by kernel_rfl) (by kernel_rfl) (fun _ _ _ h => h) (Or.inl ⟨by rfl, ?_⟩) (by assumption) ?_
                    rotate_left
                    · (intro wq hSw; (try dsimp only at hSw); go_simp; try with_reducible rfl)
                    try simp only [Act.put, List.setIfInBounds_toArray, List.set_cons_zero, List.set_cons_succ]
                    refine wpAnyH_take (i := 13) (oi := ⟨some 86, _, _, _, _, _⟩) (v := ?_) rfl (by kernel_rfl) (by kernel_rfl) (by kernel_rfl) (fun _ _ _ h => h) (Or.inl ⟨by rfl, ?_⟩) (by assumption) ?_
                    rotate_left
                    · (intro wq hSw; (try dsimp only at hSw); go_simp; try with_reducible rfl)
                    try simp only [Act.put, List.setIfInBounds_toArray, List.set_cons_zero, List.set_cons_succ]
                    refine wpAnyH_take (i := 14) (oi := ⟨some 13, _, _, _, _, _⟩) (v := ?_) rfl (by kernel_rfl) (by kernel_rfl) (by kernel_rfl) (fun _ _ _ h => h) (Or.inl ⟨by rfl, ?_⟩) (by assumption) ?_
                    rotate_left
                    · (intro wq hSw; (try dsimp only at hSw); go_simp; try with_reducible rfl)
                    try simp only [Act.put, List.setIfInBounds_toArray, List.set_cons_zero, List.set_cons_succ]
                    refine wpAnyH_done (by kernel_rfl) ?_ _
                    go_wp2_with fail
                    go_meet
                    case rel => exact ⟨by simp, g11, hHeld⟩
                  · have e1 : (z == tw) = false := by simpa using hz
                    refine wp_region_held_drew (S := (fun w' => aB w' Q1 x)) (by kernel_rfl) ?_ (fun hHeld => ?_)
                    · exact ayd
                    refine wpAnyH_take (i := 0) (oi := ⟨some 73, _, _, _, _, _⟩) (v := ?_) rfl (by kernel_rfl) (by kernel_rfl) (by kernel_rfl) (fun _ _ _ h => h) (Or.inl ⟨by rfl, ?_⟩) (by assumption) ?_
                    rotate_left
                    · (intro wq hSw; (try dsimp only at hSw); go_simp; try with_reducible rfl)
                    try simp only [Act.put, List.setIfInBounds_toArray, List.set_cons_zero, List.set_cons_succ]
                    refine wpAnyH_take (i := 2) (oi := ⟨some 75, _, _, _, _, _⟩) (v := ?_) rfl (by kernel_rfl) (by kernel_rfl) (by kernel_rfl) (fun _ _ _ h => h) (Or.inl ⟨by rfl, ?_⟩) (by assumption) ?_
                    rotate_left
                    · (intro wq hSw; (try dsimp only at hSw); go_simp; try with_reducible rfl)
                    try simp only [Act.put, List.setIfInBounds_toArray, List.set_cons_zero, List.set_cons_succ]
                    refine wpAnyH_take (i := 3) (oi := ⟨some 76, _, _, _, _, _⟩) (v := ?_) rfl (by kernel_rfl) (by kernel_rfl) (by kernel_rfl) (fun _ _ _ h => h) (Or.inl ⟨by rfl, ?_⟩) (by assumption) ?_
                    rotate_left
                    · (intro wq hSw; (try dsimp only at hSw); have d := hSw.cells; go_simp; try with_reducible rfl)
                    try simp only [Act.put, List.setIfInBounds_toArray, List.set_cons_zero, List.set_cons_succ]
                    refine wpAnyH_ready (rs := [1]) (by kernel_rfl) (by simp) ?_
                    refine AllReadyH.cons (o := ⟨some 74, _, _, _, _, _⟩) rfl (fun K hK => ?_) AllReadyH.nil
                    go_simp
                    refine (AM _).mono ?_; rintro e z1 ⟨rfl, y1⟩; have g1 := hyd.keep y1
                    refine hK.out _ _ (hHeld.keep y1) (fun hHeld => ?_)
                    clear hK K
                    try simp only [Act.put, List.setIfInBounds_toArray, List.set_cons_zero, List.set_cons_succ]
                    refine wpAnyH_ready (rs := [4]) (by kernel_rfl) (by simp) ?_
                    refine AllReadyH.cons (o := ⟨some 77, _, _, _, _, _⟩) rfl (fun K hK => ?_) AllReadyH.nil
                    go_simp
                    refine (AT _).mono ?_; rintro e z4 ⟨rfl, y4⟩; have g4 := g1.keep y4
                    refine hK.out _ _ (hHeld.keep y4) (fun hHeld => ?_)
                    clear hK K
                    try simp only [Act.put, List.setIfInBounds_toArray, List.set_cons_zero, List.set_cons_succ]
                    refine wpAnyH_take (i := 5) (oi := ⟨some 78, _, _, _, _, _⟩) (v := ?_) rfl (by kernel_rfl) (by kernel_rfl) (by kernel_rfl) (fun _ _ _ h => h) (Or.inl ⟨by rfl, ?_⟩) (by assumption) ?_
                    rotate_left
                    · (intro wq hSw; (try dsimp only at hSw); go_simp; try with_reducible rfl)
                    try simp only [Act.put, List.setIfInBounds_toArray, List.set_cons_zero, List.set_cons_succ]
                    refine wpAnyH_take (i := 6) (oi := ⟨some 79, _, _, _, _, _⟩) (v := ?_) rfl (by kernel_rfl) (by kernel_rfl) (by kernel_rfl) (fun _ _ _ h => h) (Or.inl ⟨by rfl, ?_⟩) (by assumption) ?_
                    rotate_left
                    · (intro wq hSw; (try dsimp only at hSw); go_simp; try with_reducible rfl)
                    try simp only [Act.put, List.setIfInBounds_toArray, List.set_cons_zero, List.set_cons_succ]
                    refine wpAnyH_take (i := 7) (oi := ⟨some 80, _, _, _, _, _⟩) (v := undef) rfl (by kernel_rfl) (by kernel_rfl) (by kernel_rfl) (fun _ _ _ h => h) (Or.inr ⟨by rfl, rfl⟩) (by assumption) ?_
                    try simp only [Act.put, List.setIfInBounds_toArray, List.set_cons_zero, List.set_cons_succ]
                    refine wpAnyH_take (i := 8) (oi := ⟨some 81, _, _, _, _, _⟩) (v := undef) rfl (by kernel_rfl) (by kernel_rfl) (by kernel_rfl) (fun _ _ _ h => h) (Or.inr ⟨by rfl, rfl⟩) (by assumption) ?_
                    try simp only [Act.put, List.setIfInBounds_toArray, List.set_cons_zero, List.set_cons_succ]
                    refine wpAnyH_take (i := 9) (oi := ⟨some 82, _, _, _, _, _⟩) (v := undef) rfl (by kernel_rfl) (by kernel_rfl) (by kernel_rfl) (fun _ _ _ h => h) (Or.inr ⟨by rfl, rfl⟩) (by assumption) ?_
                    try simp only [Act.put, List.setIfInBounds_toArray, List.set_cons_zero, List.set_cons_succ]
                    refine wpAnyH_take (i := 10) (oi := ⟨some 83, _, _, _, _, _⟩) (v := undef) rfl (by kernel_rfl) (by kernel_rfl) (by kernel_rfl) (fun _ _ _ h => h) (Or.inr ⟨by rfl, rfl⟩) (by assumption) ?_
                    try simp only [Act.put, List.setIfInBounds_toArray, List.set_cons_zero, List.set_cons_succ]
                    refine wpAnyH_take (i := 11) (oi := ⟨some 84, _, _, _, _, _⟩) (v := undef) rfl (by kernel_rfl) (by kernel_rfl) (by kernel_rfl) (fun _ _ _ h => h) (Or.inr ⟨by rfl, rfl⟩) (by assumption) ?_
                    try simp only [Act.put, List.setIfInBounds_toArray, List.set_cons_zero, List.set_cons_succ]
                    refine wpAnyH_take (i := 12) (oi := ⟨some 85, _, _, _, _, _⟩) (v := undef) rfl (by kernel_rfl) (by kernel_rfl) (by kernel_rfl) (fun _ _ _ h => h) (Or.inr ⟨by rfl, rfl⟩) (by assumption) ?_
                    try simp only [Act.put, List.setIfInBounds_toArray, List.set_cons_zero, List.set_cons_succ]
                    refine wpAnyH_take (i := 13) (oi := ⟨some 86, _, _, _, _, _⟩) (v := ?_) rfl (by kernel_rfl) (by kernel_rfl) (by kernel_rfl) (fun _ _ _ h => h) (Or.inl ⟨by rfl, ?_⟩) (by assumption) ?_
                    rotate_left
                    · (intro wq hSw; (try dsimp only at hSw); go_simp; try with_reducible rfl)
                    try simp only [Act.put, List.setIfInBounds_toArray, List.set_cons_zero, List.set_cons_succ]
                    refine wpAnyH_take (i := 14) (oi := ⟨some 13, _, _, _, _, _⟩) (v := ?_) rfl (by kernel_rfl) (by kernel_rfl) (by kernel_rfl) (fun _ _ _ h => h) (Or.inl ⟨by rfl, ?_⟩) (by assumption) ?_
                    rotate_left
                    · (intro wq hSw; (try dsimp only at hSw); go_simp; try with_reducible rfl)
                    try simp only [Act.put, List.setIfInBounds_toArray, List.set_cons_zero, List.set_cons_succ]
                    refine wpAnyH_done (by kernel_rfl) ?_ _
                    go_wp2_with fail
                    go_meet
                    case rel => exact ⟨by rw [e1]; rfl, g4, hHeld⟩
                case rest =>
                  clear hy ay
                  obtain ⟨rfl, hy, ay⟩ := hcut
                  generalize (z == fr && d == v) = bA at *
                  generalize (z == tw && d == v) = bB at *
                  go_wp2_with fail
                  refine (AM _).mono ?_
                  rintro e z1 ⟨rfl, y1⟩
                  have h1 := hy.keep y1
                  have b1 := ay.keep y1
                  clear hy ay y1
                  go_wp2_with fail
                  refine (DM _).mono ?_
                  rintro e z2 ⟨rfl, y2⟩
                  have h2 := h1.keep y2
                  have b2 := b1.keep y2
                  clear h1 b1 y2
                  go_wp2_with fail
                  refine (h2.fst.bal d z hl1 hl2).mono ?_
                  rintro e z3 ⟨rfl, rfl⟩
                  have d3 := b2.cells
                  go_wp2_with fail
                  refine (P1 _).mono ?_
                  rintro e z3 ⟨rfl, rfl⟩
                  have HB : ∀ w' (h : Pr w w' B b' (n + 2) s t), _ := fun w' h => h.snd.bal d z hl1 hl2
                  generalize s.bal d z = M at *
                  have w1 := addM_wrap M x.n
                  have w2 := subM_wrap M x.n (by omega)
                  have w3 := addM_wrap (subM M x.n) x.n
                  rcases (by omega : kk = 0 ∨ kk = 1 ∨ kk = 2 ∨ 3 ≤ kk) with rfl | rfl | rfl | h3
                  case' inl => rw [wantN_mint (by omega)] at hyes
                  case' inr.inl => rw [wantN_mint (by omega)] at hyes
                  case' inr.inr.inl => rw [wantN_burn rfl] at hyes
                  case' inr.inr.inr =>
                    rw [wantN_send h3] at hyes
                    have g0 : ((kk : Int) == 0) = false := by simp; omega
                    have g1 : ((kk : Int) == 1) = false := by simp; omega
                    have g2 : ((kk : Int) == 2) = false := by simp; omega
                  all_goals
                    rcases bA with _ | _ <;> rcases bB with _ | _
                    all_goals
                      simp only [if_true, if_false, Bool.false_eq_true] at hyes
                      rw [hyes] at HB
                      clear hyes
                      go_wp2_with fail
                      refine (AM _).mono ?_
                      rintro e z4 ⟨rfl, y4⟩
                      have h4 := h2.keep y4
                      have b4 := b2.keep y4
                      clear y4
                      go_wp2_with fail
                      refine (DM _).mono ?_
                      rintro e z5 ⟨rfl, y5⟩
                      have h5 := h4.keep y5
                      have b5 := b4.keep y5
                      clear y5 h4 b4
                      go_wp2_with fail
                      refine (HB _ h5).mono ?_
                      rintro e z6 ⟨rfl, rfl⟩
                      go_wp2_with fail
                      go_roundw
                      case rel => exact ⟨m + 1, by omega, by go_num, h5, b5⟩
                      case measure => simp [intOf]; omega
            · go_wp2_with fail
              go_roundw
              case rel => exact ⟨k + 1, by have := hk4h.out; omega, by go_num, hy, ay⟩
              case measure => have := hk4h.out; simp [intOf]; omega
        · go_wp2_with fail
          go_ret
          exact ⟨rfl, hy.new⟩
    · obtain rfl := hno hE
      have e1 : (E != 0) = true := by simpa using hE
      clear hno hyes
      go_wp2_with fail
      refine (same_any w B b' (n + 2) t (by omega) _ h11.fst h11.snd).mono ?_
      rintro e w12 ⟨rfl, y12⟩
      go_wp2_with fail
      go_ret
      exact ⟨rfl, h11.new.then y12 (fun _ h => h.elim)⟩
end Go.Proofs.Ytcldbipipehedaa
