/-
  voussoirlaw10.BankApart: the walk.
-/
import Derived.Test.YtcldbipipehedaaBOp
namespace Go.Proofs.Ytcldbipipehedaa
open Go.RowKit Go.ChangeMaps
theorem ds_only (s : BkS) (x : A10) : ∀ u, u ≠ dbL (pk x.den 4) → (dsS s x).sup u = s.sup u ∧ ∀ b, (dsS s x).bal u b = s.bal u b := by
  intro u hu
  unfold dsS
  split
  · exact mint_far hu
  · split
    · exact burn_far hu
    · exact ⟨send_sup _ _ _ _ _ _, fun b => send_far hu b⟩
set_option maxHeartbeats 16000000 in
set_option maxRecDepth 100000 in
theorem apart_walk (A : Option Addr) (len cap : Nat) (la : List A10) (x : A10) (w : World)
    (hla : la.length = len) (h63 : len ≤ 9223372036854775807) (hA : A10At w A la) (hx : okA x) :
    Calls Try.prog 14 #[.slice A len cap, .agg #[.int .i64 x.what, .int .i64 x.fr, .int .i64 x.to, .int .i64 x.den, .int .u64 (x.n : Nat)]] w fun e w' => e = .returned (.bool true) ∧ New w w' := by
  have n2 : New w (w.alloc (.cells #[.int .i64 x.what, .int .i64 x.fr, .int .i64 x.to, .int .i64 x.den, .int .u64 (x.n : Nat)] 69)) := (New.refl w).alloc _
  have a2 : aB (w.alloc (.cells #[.int .i64 x.what, .int .i64 x.fr, .int .i64 x.to, .int .i64 x.den, .int .u64 (x.n : Nat)] 69)) w.heap.size x := heap_alloc_new w _
  have hq2 : w.heap.size ≤ w.heap.size := Nat.le_refl _
  go_enter Try.func14, Try.ntmps14
  go_upto_region 1 with (fail)
  revert n2 a2 hq2
  generalize (w.alloc (.cells #[.int .i64 x.what, .int .i64 x.fr, .int .i64 x.to, .int .i64 x.den, .int .u64 (x.n : Nat)] 69)) = w2
  generalize hQ1 : w.heap.size = Q1
  intro n2 a2 hq2
  replace hq2 : w.heap.size ≤ Q1 := by rw [hQ1]; exact hq2
  clear hQ1
  go_wp2_with fail
  refine (awakeB_any _).mono ?_
  rintro e w3 ⟨rfl, k3⟩
  have a3 := a2.keep k3
  have n3 := n2.then k3 (fun _ h => h.elim)
  clear a2 n2 k3
  go_wp2_with fail
  refine (sgNewC n3).mono ?_
  rintro e w4 ⟨B, rfl, h4, k4⟩
  have a4 := a3.kc k4
  clear a3 n3 k4
  have s4 := sumI_empty
  generalize emptyB = s0 at *
  go_upto_block 0 with (fail)
  go_cut [] (fun wx => ∃ (n : Nat) (s : BkS), n ≤ 100 ∧ SumI s ∧ Sg w wx B n s ∧ aB wx Q1 x)
  case first =>
    go_wp2_with fail
    go_loopw [7] (fun i wr => ∃ (k n : Nat) (s : BkS), k ≤ len ∧ k ≤ 50 ∧ n ≤ 2 * k ∧ i = .int .i64 k ∧ SumI s ∧ Sg w wr B n s ∧ aB wr Q1 x)
      (fun i _ => 50 - (intOf i).toNat)
    case atStart => exact ⟨0, 0, s0, by omega, by omega, by omega, rfl, s4, h4, a4⟩
    case round =>
      clear h4 a4 s4
      obtain ⟨k, n, s, hk, hk50, hn, rfl, s7, h7, a7⟩ := hrel
      have hk0 : (0 : Int) ≤ (k : Int) := Int.natCast_nonneg _
      by_cases hlt : k < len
      · by_cases hlt2 : k < 50
        · obtain ⟨bA, oA, rfl, hbA, oy, c0, c1, c2, c3, c4⟩ := hA k la[k] (List.getElem?_eq_getElem (by omega))
          generalize la[k] = y at *
          have hk1 : (k : Int) < (len : Int) := by omega
          have nw := h7.new
          have d0 := (nw.cell (p := ⟨bA, oA + k * 5, none⟩) hbA (fun h => h)).trans c0
          have d1 := (nw.cell (p := ⟨bA, oA + k * 5 + 1, none⟩) hbA (fun h => h)).trans c1
          have d2 := (nw.cell (p := ⟨bA, oA + k * 5 + 2, none⟩) hbA (fun h => h)).trans c2
          have d3 := (nw.cell (p := ⟨bA, oA + k * 5 + 3, none⟩) hbA (fun h => h)).trans c3
          have d4 := (nw.cell (p := ⟨bA, oA + k * 5 + 4, none⟩) hbA (fun h => h)).trans c4
          go_wp2_with fail
          refine (h7.act (fun ma sa hb => does_any B ma sa n s y oy (by omega) _ hb)).mono ?_
          rintro e w8 ⟨rfl, h8, k8⟩
          have a8 := a7.kc k8
          go_wp2_with fail
          go_roundw
          case rel => exact ⟨k + 1, n + 2, _, by omega, by omega, by omega, by go_num, s7.does y, h8, a8⟩
          case measure => simp [intOf]; omega
        · go_wp2_with fail
          go_meet
          case rel => exact ⟨n, s, by omega, s7, h7, a7⟩
      · go_wp2_with fail
        go_meet
        case rel => exact ⟨n, s, by omega, s7, h7, a7⟩
  case rest =>
    clear h4 a4 s4 hA
    obtain ⟨n, s, hn, s7, h7, a7⟩ := hcut
    go_wp2_with fail
    refine (prCopy h7).mono ?_
    rintro e w10 ⟨b', rfl, h10, k10⟩
    have a10 := a7.kc k10
    clear h7 a7 k10
    have da := a10.cells
    go_wp2_with fail
    refine (h10.actB (fun mb sb hb => does_any b' mb sb n s x hx (by omega) _ hb)).mono ?_
    rintro e w11 ⟨rfl, h11, k11⟩
    have a11 := a10.kc k11
    clear h10 a10 da k11
    have hon := ds_only s x
    generalize dsS s x = t at *
    obtain ⟨i0, i1, i2, i3, i4⟩ := hx
    have DX := fun w => denomB_any x.den i3 w
    generalize hv : dbL (pk x.den 4) = v at *
    clear hv
    go_wp2_with fail
    go_loopw [9] (fun i wr => ∃ k : Nat, k ≤ 4 ∧ i = .int .i64 k ∧ Pr w wr B b' (n + 2) s t ∧ aB wr Q1 x)
      (fun i _ => 4 - (intOf i).toNat)
    case atStart => exact ⟨0, by omega, rfl, h11, a11⟩
    case round =>
      clear h11 a11
      obtain ⟨k, hk, rfl, hy, ay⟩ := hrel
      have hk0 : (0 : Int) ≤ (k : Int) := Int.natCast_nonneg _
      by_cases hk4 : k < 4
      · have DM := fun w => denomB_any (k : Int) ⟨by omega, by omega⟩ w
        have hl1 := dbL_len9 (pk (k : Int) 4)
        generalize dbL (pk (k : Int) 4) = d at *
        have hyd := hy.drew
        have ayd := ay.drew
        clear hy ay
        by_cases hdd : d = v
        · subst hdd
          go_wp2_with fail
          refine wp_region_held_drew (S := (fun w' => aB w' Q1 x)) (by kernel_rfl) ?_ (fun hHeld => ?_)
          · exact ayd
          refine wpAnyH_take (i := 0) (oi := ⟨some 46, _, _, _, _, _⟩) (v := ?_) rfl (by kernel_rfl) (by kernel_rfl) (by kernel_rfl) (fun _ _ _ h => h) (Or.inl ⟨by rfl, ?_⟩) (by assumption) ?_
          rotate_left
          · (intro wq hSw; (try dsimp only at hSw); go_simp; try with_reducible rfl)
          try simp only [Act.put, List.setIfInBounds_toArray, List.set_cons_zero, List.set_cons_succ]
          refine wpAnyH_take (i := 2) (oi := ⟨some 48, _, _, _, _, _⟩) (v := ?_) rfl (by kernel_rfl) (by kernel_rfl) (by kernel_rfl) (fun _ _ _ h => h) (Or.inl ⟨by rfl, ?_⟩) (by assumption) ?_
          rotate_left
          · (intro wq hSw; (try dsimp only at hSw); go_simp; try with_reducible rfl)
          try simp only [Act.put, List.setIfInBounds_toArray, List.set_cons_zero, List.set_cons_succ]
          refine wpAnyH_take (i := 3) (oi := ⟨some 49, _, _, _, _, _⟩) (v := ?_) rfl (by kernel_rfl) (by kernel_rfl) (by kernel_rfl) (fun _ _ _ h => h) (Or.inl ⟨by rfl, ?_⟩) (by assumption) ?_
          rotate_left
          · (intro wq hSw; (try dsimp only at hSw); have d := hSw.cells; go_simp; try with_reducible rfl)
          try simp only [Act.put, List.setIfInBounds_toArray, List.set_cons_zero, List.set_cons_succ]
          refine wpAnyH_ready (rs := [1]) (by kernel_rfl) (by simp) ?_
          refine AllReadyH.cons (o := ⟨some 47, _, _, _, _, _⟩) rfl (fun K hK => ?_) AllReadyH.nil
          go_simp
          refine (DM _).mono ?_; rintro e z1 ⟨rfl, y1⟩; have g1 := hyd.keep y1
          refine hK.out _ _ (hHeld.keep y1) (fun hHeld => ?_)
          clear hK K
          try simp only [Act.put, List.setIfInBounds_toArray, List.set_cons_zero, List.set_cons_succ]
          refine wpAnyH_ready (rs := [4]) (by kernel_rfl) (by simp) ?_
          refine AllReadyH.cons (o := ⟨some 50, _, _, _, _, _⟩) rfl (fun K hK => ?_) AllReadyH.nil
          go_simp
          refine (DX _).mono ?_; rintro e z4 ⟨rfl, y4⟩; have g4 := g1.keep y4
          refine hK.out _ _ (hHeld.keep y4) (fun hHeld => ?_)
          clear hK K
          try simp only [Act.put, List.setIfInBounds_toArray, List.set_cons_zero, List.set_cons_succ]
          refine wpAnyH_take (i := 5) (oi := ⟨some 51, _, _, _, _, _⟩) (v := ?_) rfl (by kernel_rfl) (by kernel_rfl) (by kernel_rfl) (fun _ _ _ h => h) (Or.inl ⟨by rfl, ?_⟩) (by assumption) ?_
          rotate_left
          · (intro wq hSw; (try dsimp only at hSw); go_simp; try with_reducible rfl)
          try simp only [Act.put, List.setIfInBounds_toArray, List.set_cons_zero, List.set_cons_succ]
          refine wpAnyH_done (by kernel_rfl) ?_ _
          have a4 := hHeld
          clear hyd ayd g1 y1 y4 hHeld
          go_wp2_with fail
          go_roundw
          case rel => exact ⟨k + 1, by omega, by go_num, g4, a4⟩
          case measure => simp [intOf]; omega
        · have e1 : (d == v) = false := by simpa using hdd
          obtain ⟨hs, hb⟩ := hon d hdd
          have hb2 : t.bal d = s.bal d := funext hb
          go_wp2_with fail
          refine wp_region_held_drew (S := (fun w' => aB w' Q1 x)) (by kernel_rfl) ?_ (fun hHeld => ?_)
          · exact ayd
          refine wpAnyH_take (i := 0) (oi := ⟨some 46, _, _, _, _, _⟩) (v := ?_) rfl (by kernel_rfl) (by kernel_rfl) (by kernel_rfl) (fun _ _ _ h => h) (Or.inl ⟨by rfl, ?_⟩) (by assumption) ?_
          rotate_left
          · (intro wq hSw; (try dsimp only at hSw); go_simp; try with_reducible rfl)
          try simp only [Act.put, List.setIfInBounds_toArray, List.set_cons_zero, List.set_cons_succ]
          refine wpAnyH_take (i := 2) (oi := ⟨some 48, _, _, _, _, _⟩) (v := ?_) rfl (by kernel_rfl) (by kernel_rfl) (by kernel_rfl) (fun _ _ _ h => h) (Or.inl ⟨by rfl, ?_⟩) (by assumption) ?_
          rotate_left
          · (intro wq hSw; (try dsimp only at hSw); go_simp; try with_reducible rfl)
          try simp only [Act.put, List.setIfInBounds_toArray, List.set_cons_zero, List.set_cons_succ]
          refine wpAnyH_take (i := 3) (oi := ⟨some 49, _, _, _, _, _⟩) (v := ?_) rfl (by kernel_rfl) (by kernel_rfl) (by kernel_rfl) (fun _ _ _ h => h) (Or.inl ⟨by rfl, ?_⟩) (by assumption) ?_
          rotate_left
          · (intro wq hSw; (try dsimp only at hSw); have d := hSw.cells; go_simp; try with_reducible rfl)
          try simp only [Act.put, List.setIfInBounds_toArray, List.set_cons_zero, List.set_cons_succ]
          refine wpAnyH_ready (rs := [1]) (by kernel_rfl) (by simp) ?_
          refine AllReadyH.cons (o := ⟨some 47, _, _, _, _, _⟩) rfl (fun K hK => ?_) AllReadyH.nil
          go_simp
          refine (DM _).mono ?_; rintro e z1 ⟨rfl, y1⟩; have g1 := hyd.keep y1
          refine hK.out _ _ (hHeld.keep y1) (fun hHeld => ?_)
          clear hK K
          try simp only [Act.put, List.setIfInBounds_toArray, List.set_cons_zero, List.set_cons_succ]
          refine wpAnyH_ready (rs := [4]) (by kernel_rfl) (by simp) ?_
          refine AllReadyH.cons (o := ⟨some 50, _, _, _, _, _⟩) rfl (fun K hK => ?_) AllReadyH.nil
          go_simp
          refine (DX _).mono ?_; rintro e z4 ⟨rfl, y4⟩; have g4 := g1.keep y4
          refine hK.out _ _ (hHeld.keep y4) (fun hHeld => ?_)
          clear hK K
          try simp only [Act.put, List.setIfInBounds_toArray, List.set_cons_zero, List.set_cons_succ]
          refine wpAnyH_take (i := 5) (oi := ⟨some 51, _, _, _, _, _⟩) (v := ?_) rfl (by kernel_rfl) (by kernel_rfl) (by kernel_rfl) (fun _ _ _ h => h) (Or.inl ⟨by rfl, ?_⟩) (by assumption) ?_
          rotate_left
          · (intro wq hSw; (try dsimp only at hSw); go_simp; try with_reducible rfl)
          try simp only [Act.put, List.setIfInBounds_toArray, List.set_cons_zero, List.set_cons_succ]
          refine wpAnyH_done (by kernel_rfl) ?_ _
          have hy := g4
          have ay := hHeld
          clear hyd ayd g1 y1 y4 hHeld g4
          go_wp2_with fail
          refine (DM _).mono ?_
          rintro e z1 ⟨rfl, y1⟩
          have h1 := hy.keep y1
          have b1 := ay.keep y1
          clear hy ay y1
          go_wp2_with fail
          refine (h1.fst.sup d hl1).mono ?_
          rintro e z2 ⟨rfl, rfl⟩
          go_wp2_with fail
          refine (DM _).mono ?_
          rintro e z2 ⟨rfl, y2⟩
          have h2 := h1.keep y2
          have b2 := b1.keep y2
          clear h1 b1 y2
          have hsup := h2.snd.sup d hl1
          rw [hs] at hsup
          generalize s.sup d = M at *
          go_wp2_with fail
          refine hsup.mono ?_
          rintro e z3 ⟨rfl, rfl⟩
          clear hsup hs
          go_wp2_with fail
          refine (DM _).mono ?_
          rintro e z3 ⟨rfl, y3⟩
          have h3 := h2.keep y3
          have b3 := b2.keep y3
          clear h2 b2 y3
          go_wp2_with fail
          refine (h3.fst.hol (by omega) d hl1).mono ?_
          rintro e z4 ⟨A, ca, l, rfl, hA, hAn, sA, y4⟩
          have h4 := h3.keep y4
          have b4 := b3.keep y4
          clear h3 b3 y4
          go_wp2_with fail
          refine (DM _).mono ?_
          rintro e z5 ⟨rfl, y5⟩
          have h5 := h4.keep y5
          have b5 := b4.keep y5
          have sA5 := sA.keep y5
          clear h4 b4 y5 sA
          go_wp2_with fail
          refine (h5.snd.hol (by omega) d hl1).mono ?_
          rintro e z6 ⟨B2, cb, l2, rfl, hB, hBn, sB, y6⟩
          rw [hb2] at hB
          obtain rfl := hold_uniq hA hB
          have h6 := h5.keep y6
          have b6 := b5.keep y6
          have sA6 := sA5.keep y6
          clear h5 b5 y6 sA5 hB hBn
          have TS := texts_same A B2 ca cb l (by omega) z6 sA6 sB
          obtain ⟨ln, hln⟩ : ∃ m, m = l.length := ⟨_, rfl⟩
          rw [← hln] at TS ⊢
          clear hln
          go_wp2_with fail
          refine TS.mono ?_
          rintro e z7 ⟨rfl, y7⟩
          have h7 := h6.keep y7
          have b7 := b6.keep y7
          clear h6 b6 y7 sA6 sB hA hAn TS
          go_wp2_with fail
          go_loopw [10] (fun i wr => ∃ m : Nat, m ≤ 5 ∧ i = .int .i64 m ∧ Pr w wr B b' (n + 2) s t ∧ aB wr Q1 x)
            (fun i _ => 5 - (intOf i).toNat)
          case atStart => exact ⟨0, by omega, rfl, h7, b7⟩
          case round =>
            clear h7 b7
            obtain ⟨m, hm, rfl, hy, ay⟩ := hrel
            have hm0 : (0 : Int) ≤ (m : Int) := Int.natCast_nonneg _
            by_cases hm5 : m < 5
            · have AM := fun w => account_any (m : Int) ⟨by omega, by omega⟩ w
              have hl2 := acL_len9 (pk (m : Int) 5)
              generalize acL (pk (m : Int) 5) = z at *
              go_wp2_with fail
              refine (AM _).mono ?_
              rintro e z1 ⟨rfl, y1⟩
              have h1 := hy.keep y1
              have b1 := ay.keep y1
              clear hy ay y1
              go_wp2_with fail
              refine (DM _).mono ?_
              rintro e z2 ⟨rfl, y2⟩
              have h2 := h1.keep y2
              have b2 := b1.keep y2
              clear h1 b1 y2
              go_wp2_with fail
              refine (h2.fst.bal d z hl1 hl2).mono ?_
              rintro e z3 ⟨rfl, rfl⟩
              go_wp2_with fail
              refine (AM _).mono ?_
              rintro e z3 ⟨rfl, y3⟩
              have h3 := h2.keep y3
              have b3 := b2.keep y3
              clear h2 b2 y3
              go_wp2_with fail
              refine (DM _).mono ?_
              rintro e z4 ⟨rfl, y4⟩
              have h4 := h3.keep y4
              have b4 := b3.keep y4
              clear h3 b3 y4
              have hbal := h4.snd.bal d z hl1 hl2
              rw [hb] at hbal
              generalize s.bal d z = M2 at *
              go_wp2_with fail
              refine hbal.mono ?_
              rintro e z5 ⟨rfl, rfl⟩
              clear hbal
              go_wp2_with fail
              go_roundw
              case rel => exact ⟨m + 1, by omega, by go_num, h4, b4⟩
              case measure => simp [intOf]; omega
            · go_wp2_with fail
              go_roundw
              case rel => exact ⟨k + 1, by omega, by go_num, hy, ay⟩
              case measure => simp [intOf]; omega
      · go_wp2_with fail
        go_ret
        exact ⟨rfl, hy.new⟩
end Go.Proofs.Ytcldbipipehedaa
