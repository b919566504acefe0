/-
  voussoirlaw10.BankBack: the walk.
-/
import Derived.Test.YtcldbipipehedaaBOp
import Derived.Test.YtcldbipipehedaaBkL
namespace Go.Proofs.Ytcldbipipehedaa
open Go.RowKit Go.ChangeMaps
set_option maxHeartbeats 16000000 in
set_option maxRecDepth 100000 in
theorem back_walk (A : Option Addr) (len cap : Nat) (la : List A10) (x : A10) (w : World)
    (hla : la.length = len) (h63 : len ≤ 9223372036854775807) (hA : A10At w A la) (hx : okA x) :
    Calls Try.prog 12 #[.slice A len cap, .agg #[.int .i64 x.what, .int .i64 x.fr, .int .i64 x.to, .int .i64 x.den, .int .u64 (x.n : Nat)]] w fun e w' => e = .returned (.bool true) ∧ New w w' := by
  have n2 : New w (w.alloc (.cells #[.int .i64 x.what, .int .i64 x.fr, .int .i64 x.to, .int .i64 x.den, .int .u64 (x.n : Nat)] 69)) := (New.refl w).alloc _
  have a2 : aB (w.alloc (.cells #[.int .i64 x.what, .int .i64 x.fr, .int .i64 x.to, .int .i64 x.den, .int .u64 (x.n : Nat)] 69)) w.heap.size x := heap_alloc_new w _
  have hq2 : w.heap.size ≤ w.heap.size := Nat.le_refl _
  go_enter Try.func12, Try.ntmps12
  go_upto_region 1 with (fail)
  revert n2 a2 hq2
  generalize (w.alloc (.cells #[.int .i64 x.what, .int .i64 x.fr, .int .i64 x.to, .int .i64 x.den, .int .u64 (x.n : Nat)] 69)) = w2
  generalize hQ1 : w.heap.size = Q1
  intro n2 a2 hq2
  replace hq2 : w.heap.size ≤ Q1 := by rw [hQ1]; exact hq2
  clear hQ1
  go_wp2_with fail
  refine (awakeB_any _).mono ?_
  rintro e w3 ⟨rfl, k3⟩
  have a3 := a2.keep k3
  have n3 := n2.then k3 (fun _ h => h.elim)
  clear a2 n2 k3
  go_wp2_with fail
  refine (sgNewC n3).mono ?_
  rintro e w4 ⟨B, rfl, h4, k4⟩
  have a4 := a3.kc k4
  clear a3 n3 k4
  have s4 := sumI_empty
  generalize emptyB = s0 at *
  go_upto_block 0 with (fail)
  go_cut [] (fun wx => ∃ (n : Nat) (s : BkS), n ≤ 100 ∧ SumI s ∧ Sg w wx B n s ∧ aB wx Q1 x)
  case first =>
    go_wp2_with fail
    go_loopw [7] (fun i wr => ∃ (k n : Nat) (s : BkS), k ≤ len ∧ k ≤ 50 ∧ n ≤ 2 * k ∧ i = .int .i64 k ∧ SumI s ∧ Sg w wr B n s ∧ aB wr Q1 x)
      (fun i _ => 50 - (intOf i).toNat)
    case atStart => exact ⟨0, 0, s0, by omega, by omega, by omega, rfl, s4, h4, a4⟩
    case round =>
      clear h4 a4 s4
      obtain ⟨k, n, s, hk, hk50, hn, rfl, s7, h7, a7⟩ := hrel
      have hk0 : (0 : Int) ≤ (k : Int) := Int.natCast_nonneg _
      by_cases hlt : k < len
      · by_cases hlt2 : k < 50
        · obtain ⟨bA, oA, rfl, hbA, oy, c0, c1, c2, c3, c4⟩ := hA k la[k] (List.getElem?_eq_getElem (by omega))
          generalize la[k] = y at *
          have hk1 : (k : Int) < (len : Int) := by omega
          have nw := h7.new
          have d0 := (nw.cell (p := ⟨bA, oA + k * 5, none⟩) hbA (fun h => h)).trans c0
          have d1 := (nw.cell (p := ⟨bA, oA + k * 5 + 1, none⟩) hbA (fun h => h)).trans c1
          have d2 := (nw.cell (p := ⟨bA, oA + k * 5 + 2, none⟩) hbA (fun h => h)).trans c2
          have d3 := (nw.cell (p := ⟨bA, oA + k * 5 + 3, none⟩) hbA (fun h => h)).trans c3
          have d4 := (nw.cell (p := ⟨bA, oA + k * 5 + 4, none⟩) hbA (fun h => h)).trans c4
          go_wp2_with fail
          refine (h7.act (fun ma sa hb => does_any B ma sa n s y oy (by omega) _ hb)).mono ?_
          rintro e w8 ⟨rfl, h8, k8⟩
          have a8 := a7.kc k8
          go_wp2_with fail
          go_roundw
          case rel => exact ⟨k + 1, n + 2, _, by omega, by omega, by omega, by go_num, s7.does y, h8, a8⟩
          case measure => simp [intOf]; omega
        · go_wp2_with fail
          go_meet
          case rel => exact ⟨n, s, by omega, s7, h7, a7⟩
      · go_wp2_with fail
        go_meet
        case rel => exact ⟨n, s, by omega, s7, h7, a7⟩
  case rest =>
    clear h4 a4 s4 hA
    obtain ⟨n, s, hn, s7, h7, a7⟩ := hcut
    go_wp2_with fail
    refine (prCopy h7).mono ?_
    rintro e w10 ⟨b', rfl, h10, k10⟩
    have a10 := a7.kc k10
    clear h7 a7 k10
    have da := a10.cells
    have hx2 := hx
    obtain ⟨i0, i1, i2, i3, i4⟩ := hx2
    have C1 := fun w => account_any x.fr i1 w
    have C2 := fun w => account_any x.to i2 w
    have C3 := fun w => denomB_any x.den i3 w
    have P1 := fun w => pickB_any x.what 6 w i0 (by omega) (by omega)
    have hk := pk_lt x.what 6 (by omega)
    have HE : Hid (dsE s x = if pk x.what 6 ≤ 1 then mintE s (acL (pk x.fr 5)) (dbL (pk x.den 4)) x.n else if pk x.what 6 = 2 then burnE s (acL (pk x.fr 5)) (dbL (pk x.den 4)) x.n else sendE s (acL (pk x.fr 5)) (acL (pk x.to 5)) (dbL (pk x.den 4)) x.n) := rfl
    have HS : Hid (dsS s x = if pk x.what 6 ≤ 1 then mintS s (acL (pk x.fr 5)) (dbL (pk x.den 4)) x.n else if pk x.what 6 = 2 then burnS s (acL (pk x.fr 5)) (dbL (pk x.den 4)) x.n else sendS s (acL (pk x.fr 5)) (acL (pk x.to 5)) (dbL (pk x.den 4)) x.n) := rfl
    go_wp2_with fail
    refine (h10.actB (fun mb sb hb => does_any b' mb sb n s x hx (by omega) _ hb)).mono ?_
    rintro e w11 ⟨rfl, h11, k11⟩
    have a11 := a10.kc k11
    clear h10 a10 da k11 hx
    generalize acL (pk x.fr 5) = fr at *
    generalize acL (pk x.to 5) = tw at *
    generalize dbL (pk x.den 4) = d at *
    generalize dsE s x = E at *
    generalize dsS s x = T at *
    generalize pk x.what 6 = k at *
    by_cases hE : E = 0
    · subst hE
      have d11 := a11.cells
      have h11d := h11.drew
      have a11d := a11.drew
      rcases (by omega : k = 0 ∨ k = 1 ∨ k = 2 ∨ 3 ≤ k) with rfl | rfl | rfl | h3
      · obtain ⟨q1, q2⟩ := mint_burn s7 (by have := HE.out; rw [if_pos (by omega)] at this; exact this.symm)
        have hT : T = mintS s fr d x.n := by rw [HS.out, if_pos (by omega)]
        rw [← hT] at q1 q2
        have M : ∀ z (g : Pr w z B b' (n + 2) s T), _ := fun z g => g.actB (fun mb sb hb => burn_any b' mb sb (n + 2) T fr d x.n i4 (by omega) z hb)
        rw [q1, q2] at M
        clear HE HS hT q1 q2 a11 h11
        go_wp2_with fail
        refine (P1 _).mono ?_
        rintro e w12 ⟨rfl, rfl⟩
        clear P1
        go_wp2_with fail
        refine wp_region_held_drew (S := (fun w' => aB w' Q1 x)) (by kernel_rfl) ?_ (fun hHeld => ?_)
        · exact a11d
        refine wpAnyH_take (i := 0) (oi := ⟨some 65, _, _, _, _, _⟩) (v := ?_) rfl (by kernel_rfl) (by kernel_rfl) (by kernel_rfl) (fun _ _ _ h => h) (Or.inl ⟨by rfl, ?_⟩) (by assumption) ?_
        rotate_left
        · (intro wq hSw; (try dsimp only at hSw); go_simp; try with_reducible rfl)
        try simp only [Act.put, List.setIfInBounds_toArray, List.set_cons_zero, List.set_cons_succ]
        refine wpAnyH_take (i := 1) (oi := ⟨some 66, _, _, _, _, _⟩) (v := ?_) rfl (by kernel_rfl) (by kernel_rfl) (by kernel_rfl) (fun _ _ _ h => h) (Or.inl ⟨by rfl, ?_⟩) (by assumption) ?_
        rotate_left
        · (intro wq hSw; (try dsimp only at hSw); go_simp; try with_reducible rfl)
        try simp only [Act.put, List.setIfInBounds_toArray, List.set_cons_zero, List.set_cons_succ]
        refine wpAnyH_take (i := 2) (oi := ⟨some 67, _, _, _, _, _⟩) (v := ?_) rfl (by kernel_rfl) (by kernel_rfl) (by kernel_rfl) (fun _ _ _ h => h) (Or.inl ⟨by rfl, ?_⟩) (by assumption) ?_
        rotate_left
        · (intro wq hSw; (try dsimp only at hSw); have d := hSw.cells; go_simp; try with_reducible rfl)
        try simp only [Act.put, List.setIfInBounds_toArray, List.set_cons_zero, List.set_cons_succ]
        refine wpAnyH_take (i := 4) (oi := ⟨some 69, _, _, _, _, _⟩) (v := ?_) rfl (by kernel_rfl) (by kernel_rfl) (by kernel_rfl) (fun _ _ _ h => h) (Or.inl ⟨by rfl, ?_⟩) (by assumption) ?_
        rotate_left
        · (intro wq hSw; (try dsimp only at hSw); go_simp; try with_reducible rfl)
        try simp only [Act.put, List.setIfInBounds_toArray, List.set_cons_zero, List.set_cons_succ]
        refine wpAnyH_take (i := 5) (oi := ⟨some 70, _, _, _, _, _⟩) (v := ?_) rfl (by kernel_rfl) (by kernel_rfl) (by kernel_rfl) (fun _ _ _ h => h) (Or.inl ⟨by rfl, ?_⟩) (by assumption) ?_
        rotate_left
        · (intro wq hSw; (try dsimp only at hSw); have d := hSw.cells; go_simp; try with_reducible rfl)
        try simp only [Act.put, List.setIfInBounds_toArray, List.set_cons_zero, List.set_cons_succ]
        refine wpAnyH_take (i := 7) (oi := ⟨some 72, _, _, _, _, _⟩) (v := ?_) rfl (by kernel_rfl) (by kernel_rfl) (by kernel_rfl) (fun _ _ _ h => h) (Or.inl ⟨by rfl, ?_⟩) (by assumption) ?_
        rotate_left
        · (intro wq hSw; (try dsimp only at hSw); go_simp; try with_reducible rfl)
        try simp only [Act.put, List.setIfInBounds_toArray, List.set_cons_zero, List.set_cons_succ]
        refine wpAnyH_take (i := 8) (oi := ⟨some 73, _, _, _, _, _⟩) (v := ?_) rfl (by kernel_rfl) (by kernel_rfl) (by kernel_rfl) (fun _ _ _ h => h) (Or.inl ⟨by rfl, ?_⟩) (by assumption) ?_
        rotate_left
        · (intro wq hSw; (try dsimp only at hSw); have d := hSw.cells; go_simp; try with_reducible rfl)
        try simp only [Act.put, List.setIfInBounds_toArray, List.set_cons_zero, List.set_cons_succ]
        refine wpAnyH_ready (rs := [3]) (by kernel_rfl) (by simp) ?_
        refine AllReadyH.cons (o := ⟨some 68, _, _, _, _, _⟩) rfl (fun K hK => ?_) AllReadyH.nil
        go_simp
        refine (C1 _).mono ?_; rintro e z3 ⟨rfl, y3⟩; have g3 := h11d.keep y3
        refine hK.out _ _ (hHeld.keep y3) (fun hHeld => ?_)
        clear hK K
        try simp only [Act.put, List.setIfInBounds_toArray, List.set_cons_zero, List.set_cons_succ]
        refine wpAnyH_ready (rs := [6]) (by kernel_rfl) (by simp) ?_
        refine AllReadyH.cons (o := ⟨some 71, _, _, _, _, _⟩) rfl (fun K hK => ?_) AllReadyH.nil
        go_simp
        refine (C3 _).mono ?_; rintro e z6 ⟨rfl, y6⟩; have g6 := g3.keep y6
        refine hK.out _ _ (hHeld.keep y6) (fun hHeld => ?_)
        clear hK K
        try simp only [Act.put, List.setIfInBounds_toArray, List.set_cons_zero, List.set_cons_succ]
        refine wpAnyH_ready (rs := [9]) (by kernel_rfl) (by simp) ?_
        refine AllReadyH.cons (o := ⟨some 74, _, _, _, _, _⟩) rfl (fun K hK => ?_) AllReadyH.nil
        go_simp
        refine (M _ g6).mono ?_; rintro e z9 ⟨rfl, g9, y9⟩
        refine hK.out _ _ (hHeld.kc y9) (fun hHeld => ?_)
        clear hK K
        try simp only [Act.put, List.setIfInBounds_toArray, List.set_cons_zero, List.set_cons_succ]
        refine wpAnyH_take (i := 10) (oi := ⟨some 9, _, _, _, _, _⟩) (v := ?_) rfl (by kernel_rfl) (by kernel_rfl) (by kernel_rfl) (fun _ _ _ h => h) (Or.inl ⟨by rfl, ?_⟩) (by assumption) ?_
        rotate_left
        · (intro wq hSw; (try dsimp only at hSw); go_simp; try with_reducible rfl)
        try simp only [Act.put, List.setIfInBounds_toArray, List.set_cons_zero, List.set_cons_succ]
        refine wpAnyH_done (by kernel_rfl) ?_ _
        clear M C1 C2 C3 a11d h11d hHeld y9 y6 y3 g3 g6 d11
        have SM := same_any w B b' (n + 2 + 2) s (by omega) _ g9.fst g9.snd
        go_wp2_with fail
        refine SM.mono ?_
        rintro e z10 ⟨rfl, y10⟩
        go_wp2_with fail
        go_ret
        exact ⟨rfl, g9.new.then y10 (fun _ h => h.elim)⟩
      · obtain ⟨q1, q2⟩ := mint_burn s7 (by have := HE.out; rw [if_pos (by omega)] at this; exact this.symm)
        have hT : T = mintS s fr d x.n := by rw [HS.out, if_pos (by omega)]
        rw [← hT] at q1 q2
        have M : ∀ z (g : Pr w z B b' (n + 2) s T), _ := fun z g => g.actB (fun mb sb hb => burn_any b' mb sb (n + 2) T fr d x.n i4 (by omega) z hb)
        rw [q1, q2] at M
        clear HE HS hT q1 q2 a11 h11
        go_wp2_with fail
        refine (P1 _).mono ?_
        rintro e w12 ⟨rfl, rfl⟩
        clear P1
        go_wp2_with fail
        refine wp_region_held_drew (S := (fun w' => aB w' Q1 x)) (by kernel_rfl) ?_ (fun hHeld => ?_)
        · exact a11d
        refine wpAnyH_take (i := 0) (oi := ⟨some 65, _, _, _, _, _⟩) (v := ?_) rfl (by kernel_rfl) (by kernel_rfl) (by kernel_rfl) (fun _ _ _ h => h) (Or.inl ⟨by rfl, ?_⟩) (by assumption) ?_
        rotate_left
        · (intro wq hSw; (try dsimp only at hSw); go_simp; try with_reducible rfl)
        try simp only [Act.put, List.setIfInBounds_toArray, List.set_cons_zero, List.set_cons_succ]
        refine wpAnyH_take (i := 1) (oi := ⟨some 66, _, _, _, _, _⟩) (v := ?_) rfl (by kernel_rfl) (by kernel_rfl) (by kernel_rfl) (fun _ _ _ h => h) (Or.inl ⟨by rfl, ?_⟩) (by assumption) ?_
        rotate_left
        · (intro wq hSw; (try dsimp only at hSw); go_simp; try with_reducible rfl)
        try simp only [Act.put, List.setIfInBounds_toArray, List.set_cons_zero, List.set_cons_succ]
        refine wpAnyH_take (i := 2) (oi := ⟨some 67, _, _, _, _, _⟩) (v := ?_) rfl (by kernel_rfl) (by kernel_rfl) (by kernel_rfl) (fun _ _ _ h => h) (Or.inl ⟨by rfl, ?_⟩) (by assumption) ?_
        rotate_left
        · (intro wq hSw; (try dsimp only at hSw); have d := hSw.cells; go_simp; try with_reducible rfl)
        try simp only [Act.put, List.setIfInBounds_toArray, List.set_cons_zero, List.set_cons_succ]
        refine wpAnyH_take (i := 4) (oi := ⟨some 69, _, _, _, _, _⟩) (v := ?_) rfl (by kernel_rfl) (by kernel_rfl) (by kernel_rfl) (fun _ _ _ h => h) (Or.inl ⟨by rfl, ?_⟩) (by assumption) ?_
        rotate_left
        · (intro wq hSw; (try dsimp only at hSw); go_simp; try with_reducible rfl)
        try simp only [Act.put, List.setIfInBounds_toArray, List.set_cons_zero, List.set_cons_succ]
        refine wpAnyH_take (i := 5) (oi := ⟨some 70, _, _, _, _, _⟩) (v := ?_) rfl (by kernel_rfl) (by kernel_rfl) (by kernel_rfl) (fun _ _ _ h => h) (Or.inl ⟨by rfl, ?_⟩) (by assumption) ?_
        rotate_left
        · (intro wq hSw; (try dsimp only at hSw); have d := hSw.cells; go_simp; try with_reducible rfl)
        try simp only [Act.put, List.setIfInBounds_toArray, List.set_cons_zero, List.set_cons_succ]
        refine wpAnyH_take (i := 7) (oi := ⟨some 72, _, _, _, _, _⟩) (v := ?_) rfl (by kernel_rfl) (by kernel_rfl) (by kernel_rfl) (fun _ _ _ h => h) (Or.inl ⟨by rfl, ?_⟩) (by assumption) ?_
        rotate_left
        · (intro wq hSw; (try dsimp only at hSw); go_simp; try with_reducible rfl)
        try simp only [Act.put, List.setIfInBounds_toArray, List.set_cons_zero, List.set_cons_succ]
        refine wpAnyH_take (i := 8) (oi := ⟨some 73, _, _, _, _, _⟩) (v := ?_) rfl (by kernel_rfl) (by kernel_rfl) (by kernel_rfl) (fun _ _ _ h => h) (Or.inl ⟨by rfl, ?_⟩) (by assumption) ?_
        rotate_left
        · (intro wq hSw; (try dsimp only at hSw); have d := hSw.cells; go_simp; try with_reducible rfl)
        try simp only [Act.put, List.setIfInBounds_toArray, List.set_cons_zero, List.set_cons_succ]
        refine wpAnyH_ready (rs := [3]) (by kernel_rfl) (by simp) ?_
        refine AllReadyH.cons (o := ⟨some 68, _, _, _, _, _⟩) rfl (fun K hK => ?_) AllReadyH.nil
        go_simp
        refine (C1 _).mono ?_; rintro e z3 ⟨rfl, y3⟩; have g3 := h11d.keep y3
        refine hK.out _ _ (hHeld.keep y3) (fun hHeld => ?_)
        clear hK K
        try simp only [Act.put, List.setIfInBounds_toArray, List.set_cons_zero, List.set_cons_succ]
        refine wpAnyH_ready (rs := [6]) (by kernel_rfl) (by simp) ?_
        refine AllReadyH.cons (o := ⟨some 71, _, _, _, _, _⟩) rfl (fun K hK => ?_) AllReadyH.nil
        go_simp
        refine (C3 _).mono ?_; rintro e z6 ⟨rfl, y6⟩; have g6 := g3.keep y6
        refine hK.out _ _ (hHeld.keep y6) (fun hHeld => ?_)
        clear hK K
        try simp only [Act.put, List.setIfInBounds_toArray, List.set_cons_zero, List.set_cons_succ]
        refine wpAnyH_ready (rs := [9]) (by kernel_rfl) (by simp) ?_
        refine AllReadyH.cons (o := ⟨some 74, _, _, _, _, _⟩) rfl (fun K hK => ?_) AllReadyH.nil
        go_simp
        refine (M _ g6).mono ?_; rintro e z9 ⟨rfl, g9, y9⟩
        refine hK.out _ _ (hHeld.kc y9) (fun hHeld => ?_)
        clear hK K
        try simp only [Act.put, List.setIfInBounds_toArray, List.set_cons_zero, List.set_cons_succ]
        refine wpAnyH_take (i := 10) (oi := ⟨some 9, _, _, _, _, _⟩) (v := ?_) rfl (by kernel_rfl) (by kernel_rfl) (by kernel_rfl) (fun _ _ _ h => h) (Or.inl ⟨by rfl, ?_⟩) (by assumption) ?_
        rotate_left
        · (intro wq hSw; (try dsimp only at hSw); go_simp; try with_reducible rfl)
        try simp only [Act.put, List.setIfInBounds_toArray, List.set_cons_zero, List.set_cons_succ]
        refine wpAnyH_done (by kernel_rfl) ?_ _
        clear M C1 C2 C3 a11d h11d hHeld y9 y6 y3 g3 g6 d11
        have SM := same_any w B b' (n + 2 + 2) s (by omega) _ g9.fst g9.snd
        go_wp2_with fail
        refine SM.mono ?_
        rintro e z10 ⟨rfl, y10⟩
        go_wp2_with fail
        go_ret
        exact ⟨rfl, g9.new.then y10 (fun _ h => h.elim)⟩
      · obtain ⟨q1, q2⟩ := burn_mint s7 (by have := HE.out; rw [if_neg (by omega), if_pos rfl] at this; exact this.symm)
        have hT : T = burnS s fr d x.n := by rw [HS.out, if_neg (by omega), if_pos rfl]
        rw [← hT] at q1 q2
        have M : ∀ z (g : Pr w z B b' (n + 2) s T), _ := fun z g => g.actB (fun mb sb hb => mint_any b' mb sb (n + 2) T fr d x.n i4 (by omega) z hb)
        rw [q1, q2] at M
        clear HE HS hT q1 q2 a11 h11
        go_wp2_with fail
        refine (P1 _).mono ?_
        rintro e w12 ⟨rfl, rfl⟩
        clear P1
        go_wp2_with fail
        refine wp_region_held_drew (S := (fun w' => aB w' Q1 x)) (by kernel_rfl) ?_ (fun hHeld => ?_)
        · exact a11d
        refine wpAnyH_take (i := 0) (oi := ⟨some 77, _, _, _, _, _⟩) (v := ?_) rfl (by kernel_rfl) (by kernel_rfl) (by kernel_rfl) (fun _ _ _ h => h) (Or.inl ⟨by rfl, ?_⟩) (by assumption) ?_
        rotate_left
        · (intro wq hSw; (try dsimp only at hSw); go_simp; try with_reducible rfl)
        try simp only [Act.put, List.setIfInBounds_toArray, List.set_cons_zero, List.set_cons_succ]
        refine wpAnyH_take (i := 1) (oi := ⟨some 78, _, _, _, _, _⟩) (v := ?_) rfl (by kernel_rfl) (by kernel_rfl) (by kernel_rfl) (fun _ _ _ h => h) (Or.inl ⟨by rfl, ?_⟩) (by assumption) ?_
        rotate_left
        · (intro wq hSw; (try dsimp only at hSw); go_simp; try with_reducible rfl)
        try simp only [Act.put, List.setIfInBounds_toArray, List.set_cons_zero, List.set_cons_succ]
        refine wpAnyH_take (i := 2) (oi := ⟨some 79, _, _, _, _, _⟩) (v := ?_) rfl (by kernel_rfl) (by kernel_rfl) (by kernel_rfl) (fun _ _ _ h => h) (Or.inl ⟨by rfl, ?_⟩) (by assumption) ?_
        rotate_left
        · (intro wq hSw; (try dsimp only at hSw); have d := hSw.cells; go_simp; try with_reducible rfl)
        try simp only [Act.put, List.setIfInBounds_toArray, List.set_cons_zero, List.set_cons_succ]
        refine wpAnyH_take (i := 4) (oi := ⟨some 81, _, _, _, _, _⟩) (v := ?_) rfl (by kernel_rfl) (by kernel_rfl) (by kernel_rfl) (fun _ _ _ h => h) (Or.inl ⟨by rfl, ?_⟩) (by assumption) ?_
        rotate_left
        · (intro wq hSw; (try dsimp only at hSw); go_simp; try with_reducible rfl)
        try simp only [Act.put, List.setIfInBounds_toArray, List.set_cons_zero, List.set_cons_succ]
        refine wpAnyH_take (i := 5) (oi := ⟨some 82, _, _, _, _, _⟩) (v := ?_) rfl (by kernel_rfl) (by kernel_rfl) (by kernel_rfl) (fun _ _ _ h => h) (Or.inl ⟨by rfl, ?_⟩) (by assumption) ?_
        rotate_left
        · (intro wq hSw; (try dsimp only at hSw); have d := hSw.cells; go_simp; try with_reducible rfl)
        try simp only [Act.put, List.setIfInBounds_toArray, List.set_cons_zero, List.set_cons_succ]
        refine wpAnyH_take (i := 7) (oi := ⟨some 84, _, _, _, _, _⟩) (v := ?_) rfl (by kernel_rfl) (by kernel_rfl) (by kernel_rfl) (fun _ _ _ h => h) (Or.inl ⟨by rfl, ?_⟩) (by assumption) ?_
        rotate_left
        · (intro wq hSw; (try dsimp only at hSw); go_simp; try with_reducible rfl)
        try simp only [Act.put, List.setIfInBounds_toArray, List.set_cons_zero, List.set_cons_succ]
        refine wpAnyH_take (i := 8) (oi := ⟨some 85, _, _, _, _, _⟩) (v := ?_) rfl (by kernel_rfl) (by kernel_rfl) (by kernel_rfl) (fun _ _ _ h => h) (Or.inl ⟨by rfl, ?_⟩) (by assumption) ?_
        rotate_left
        · (intro wq hSw; (try dsimp only at hSw); have d := hSw.cells; go_simp; try with_reducible rfl)
        try simp only [Act.put, List.setIfInBounds_toArray, List.set_cons_zero, List.set_cons_succ]
        refine wpAnyH_ready (rs := [3]) (by kernel_rfl) (by simp) ?_
        refine AllReadyH.cons (o := ⟨some 80, _, _, _, _, _⟩) rfl (fun K hK => ?_) AllReadyH.nil
        go_simp
        refine (C1 _).mono ?_; rintro e z3 ⟨rfl, y3⟩; have g3 := h11d.keep y3
        refine hK.out _ _ (hHeld.keep y3) (fun hHeld => ?_)
        clear hK K
        try simp only [Act.put, List.setIfInBounds_toArray, List.set_cons_zero, List.set_cons_succ]
        refine wpAnyH_ready (rs := [6]) (by kernel_rfl) (by simp) ?_
        refine AllReadyH.cons (o := ⟨some 83, _, _, _, _, _⟩) rfl (fun K hK => ?_) AllReadyH.nil
        go_simp
        refine (C3 _).mono ?_; rintro e z6 ⟨rfl, y6⟩; have g6 := g3.keep y6
        refine hK.out _ _ (hHeld.keep y6) (fun hHeld => ?_)
        clear hK K
        try simp only [Act.put, List.setIfInBounds_toArray, List.set_cons_zero, List.set_cons_succ]
        refine wpAnyH_ready (rs := [9]) (by kernel_rfl) (by simp) ?_
        refine AllReadyH.cons (o := ⟨some 86, _, _, _, _, _⟩) rfl (fun K hK => ?_) AllReadyH.nil
        go_simp
        refine (M _ g6).mono ?_; rintro e z9 ⟨rfl, g9, y9⟩
        refine hK.out _ _ (hHeld.kc y9) (fun hHeld => ?_)
        clear hK K
        try simp only [Act.put, List.setIfInBounds_toArray, List.set_cons_zero, List.set_cons_succ]
        refine wpAnyH_take (i := 10) (oi := ⟨some 9, _, _, _, _, _⟩) (v := ?_) rfl (by kernel_rfl) (by kernel_rfl) (by kernel_rfl) (fun _ _ _ h => h) (Or.inl ⟨by rfl, ?_⟩) (by assumption) ?_
        rotate_left
        · (intro wq hSw; (try dsimp only at hSw); go_simp; try with_reducible rfl)
        try simp only [Act.put, List.setIfInBounds_toArray, List.set_cons_zero, List.set_cons_succ]
        refine wpAnyH_done (by kernel_rfl) ?_ _
        clear M C1 C2 C3 a11d h11d hHeld y9 y6 y3 g3 g6 d11
        have SM := same_any w B b' (n + 2 + 2) s (by omega) _ g9.fst g9.snd
        go_wp2_with fail
        refine SM.mono ?_
        rintro e z10 ⟨rfl, y10⟩
        go_wp2_with fail
        go_ret
        exact ⟨rfl, g9.new.then y10 (fun _ h => h.elim)⟩
      · obtain ⟨q1, q2⟩ := send_back s7 (by have := HE.out; rw [if_neg (by omega), if_neg (by omega)] at this; exact this.symm)
        have hT : T = sendS s fr tw d x.n := by rw [HS.out, if_neg (by omega), if_neg (by omega)]
        have g0 : ((k : Int) == 0) = false := by simp; omega
        have g1 : ((k : Int) == 1) = false := by simp; omega
        have g2 : ((k : Int) == 2) = false := by simp; omega
        rw [← hT] at q1 q2
        have M : ∀ z (g : Pr w z B b' (n + 2) s T), _ := fun z g => g.actB (fun mb sb hb => send_any b' mb sb (n + 2) T tw fr d x.n i4 (by omega) z hb)
        rw [q1, q2] at M
        clear HE HS hT q1 q2 a11 h11
        go_wp2_with fail
        refine (P1 _).mono ?_
        rintro e w12 ⟨rfl, rfl⟩
        clear P1
        go_wp2_with fail
        refine wp_region_held_drew (S := (fun w' => aB w' Q1 x)) (by kernel_rfl) ?_ (fun hHeld => ?_)
        · exact a11d
        refine wpAnyH_take (i := 0) (oi := ⟨some 49, _, _, _, _, _⟩) (v := ?_) rfl (by kernel_rfl) (by kernel_rfl) (by kernel_rfl) (fun _ _ _ h => h) (Or.inl ⟨by rfl, ?_⟩) (by assumption) ?_
        rotate_left
        · (intro wq hSw; (try dsimp only at hSw); go_simp; try with_reducible rfl)
        try simp only [Act.put, List.setIfInBounds_toArray, List.set_cons_zero, List.set_cons_succ]
        refine wpAnyH_take (i := 1) (oi := ⟨some 50, _, _, _, _, _⟩) (v := ?_) rfl (by kernel_rfl) (by kernel_rfl) (by kernel_rfl) (fun _ _ _ h => h) (Or.inl ⟨by rfl, ?_⟩) (by assumption) ?_
        rotate_left
        · (intro wq hSw; (try dsimp only at hSw); go_simp; try with_reducible rfl)
        try simp only [Act.put, List.setIfInBounds_toArray, List.set_cons_zero, List.set_cons_succ]
        refine wpAnyH_take (i := 2) (oi := ⟨some 51, _, _, _, _, _⟩) (v := ?_) rfl (by kernel_rfl) (by kernel_rfl) (by kernel_rfl) (fun _ _ _ h => h) (Or.inl ⟨by rfl, ?_⟩) (by assumption) ?_
        rotate_left
        · (intro wq hSw; (try dsimp only at hSw); have d := hSw.cells; go_simp; try with_reducible rfl)
        try simp only [Act.put, List.setIfInBounds_toArray, List.set_cons_zero, List.set_cons_succ]
        refine wpAnyH_take (i := 4) (oi := ⟨some 53, _, _, _, _, _⟩) (v := ?_) rfl (by kernel_rfl) (by kernel_rfl) (by kernel_rfl) (fun _ _ _ h => h) (Or.inl ⟨by rfl, ?_⟩) (by assumption) ?_
        rotate_left
        · (intro wq hSw; (try dsimp only at hSw); go_simp; try with_reducible rfl)
        try simp only [Act.put, List.setIfInBounds_toArray, List.set_cons_zero, List.set_cons_succ]
        refine wpAnyH_take (i := 5) (oi := ⟨some 54, _, _, _, _, _⟩) (v := ?_) rfl (by kernel_rfl) (by kernel_rfl) (by kernel_rfl) (fun _ _ _ h => h) (Or.inl ⟨by rfl, ?_⟩) (by assumption) ?_
        rotate_left
        · (intro wq hSw; (try dsimp only at hSw); have d := hSw.cells; go_simp; try with_reducible rfl)
        try simp only [Act.put, List.setIfInBounds_toArray, List.set_cons_zero, List.set_cons_succ]
        refine wpAnyH_take (i := 7) (oi := ⟨some 56, _, _, _, _, _⟩) (v := ?_) rfl (by kernel_rfl) (by kernel_rfl) (by kernel_rfl) (fun _ _ _ h => h) (Or.inl ⟨by rfl, ?_⟩) (by assumption) ?_
        rotate_left
        · (intro wq hSw; (try dsimp only at hSw); go_simp; try with_reducible rfl)
        try simp only [Act.put, List.setIfInBounds_toArray, List.set_cons_zero, List.set_cons_succ]
        refine wpAnyH_take (i := 8) (oi := ⟨some 57, _, _, _, _, _⟩) (v := ?_) rfl (by kernel_rfl) (by kernel_rfl) (by kernel_rfl) (fun _ _ _ h => h) (Or.inl ⟨by rfl, ?_⟩) (by assumption) ?_
        rotate_left
        · (intro wq hSw; (try dsimp only at hSw); have d := hSw.cells; go_simp; try with_reducible rfl)
        try simp only [Act.put, List.setIfInBounds_toArray, List.set_cons_zero, List.set_cons_succ]
        refine wpAnyH_take (i := 10) (oi := ⟨some 59, _, _, _, _, _⟩) (v := ?_) rfl (by kernel_rfl) (by kernel_rfl) (by kernel_rfl) (fun _ _ _ h => h) (Or.inl ⟨by rfl, ?_⟩) (by assumption) ?_
        rotate_left
        · (intro wq hSw; (try dsimp only at hSw); go_simp; try with_reducible rfl)
        try simp only [Act.put, List.setIfInBounds_toArray, List.set_cons_zero, List.set_cons_succ]
        refine wpAnyH_take (i := 11) (oi := ⟨some 60, _, _, _, _, _⟩) (v := ?_) rfl (by kernel_rfl) (by kernel_rfl) (by kernel_rfl) (fun _ _ _ h => h) (Or.inl ⟨by rfl, ?_⟩) (by assumption) ?_
        rotate_left
        · (intro wq hSw; (try dsimp only at hSw); have d := hSw.cells; go_simp; try with_reducible rfl)
        try simp only [Act.put, List.setIfInBounds_toArray, List.set_cons_zero, List.set_cons_succ]
        refine wpAnyH_ready (rs := [3]) (by kernel_rfl) (by simp) ?_
        refine AllReadyH.cons (o := ⟨some 52, _, _, _, _, _⟩) rfl (fun K hK => ?_) AllReadyH.nil
        go_simp
        refine (C2 _).mono ?_; rintro e z3 ⟨rfl, y3⟩; have g3 := h11d.keep y3
        refine hK.out _ _ (hHeld.keep y3) (fun hHeld => ?_)
        clear hK K
        try simp only [Act.put, List.setIfInBounds_toArray, List.set_cons_zero, List.set_cons_succ]
        refine wpAnyH_ready (rs := [6]) (by kernel_rfl) (by simp) ?_
        refine AllReadyH.cons (o := ⟨some 55, _, _, _, _, _⟩) rfl (fun K hK => ?_) AllReadyH.nil
        go_simp
        refine (C1 _).mono ?_; rintro e z6 ⟨rfl, y6⟩; have g6 := g3.keep y6
        refine hK.out _ _ (hHeld.keep y6) (fun hHeld => ?_)
        clear hK K
        try simp only [Act.put, List.setIfInBounds_toArray, List.set_cons_zero, List.set_cons_succ]
        refine wpAnyH_ready (rs := [9]) (by kernel_rfl) (by simp) ?_
        refine AllReadyH.cons (o := ⟨some 58, _, _, _, _, _⟩) rfl (fun K hK => ?_) AllReadyH.nil
        go_simp
        refine (C3 _).mono ?_; rintro e z9 ⟨rfl, y9⟩; have g9 := g6.keep y9
        refine hK.out _ _ (hHeld.keep y9) (fun hHeld => ?_)
        clear hK K
        try simp only [Act.put, List.setIfInBounds_toArray, List.set_cons_zero, List.set_cons_succ]
        refine wpAnyH_ready (rs := [12]) (by kernel_rfl) (by simp) ?_
        refine AllReadyH.cons (o := ⟨some 61, _, _, _, _, _⟩) rfl (fun K hK => ?_) AllReadyH.nil
        go_simp
        refine (M _ g9).mono ?_; rintro e z12 ⟨rfl, g12, y12⟩
        refine hK.out _ _ (hHeld.kc y12) (fun hHeld => ?_)
        clear hK K
        try simp only [Act.put, List.setIfInBounds_toArray, List.set_cons_zero, List.set_cons_succ]
        refine wpAnyH_take (i := 13) (oi := ⟨some 9, _, _, _, _, _⟩) (v := ?_) rfl (by kernel_rfl) (by kernel_rfl) (by kernel_rfl) (fun _ _ _ h => h) (Or.inl ⟨by rfl, ?_⟩) (by assumption) ?_
        rotate_left
        · (intro wq hSw; (try dsimp only at hSw); go_simp; try with_reducible rfl)
        try simp only [Act.put, List.setIfInBounds_toArray, List.set_cons_zero, List.set_cons_succ]
        refine wpAnyH_done (by kernel_rfl) ?_ _
        clear M C1 C2 C3 a11d h11d hHeld y9 y6 y3 g3 g6 d11 g9 y12
        have SM := same_any w B b' (n + 2 + 2) s (by omega) _ g12.fst g12.snd
        go_wp2_with fail
        refine SM.mono ?_
        rintro e z10 ⟨rfl, y10⟩
        go_wp2_with fail
        go_ret
        exact ⟨rfl, g12.new.then y10 (fun _ h => h.elim)⟩
    · have e1 : (E != 0) = true := by simpa using hE
      clear HE HS
      go_wp2_with fail
      go_ret
      exact ⟨rfl, h11.new⟩
end Go.Proofs.Ytcldbipipehedaa
