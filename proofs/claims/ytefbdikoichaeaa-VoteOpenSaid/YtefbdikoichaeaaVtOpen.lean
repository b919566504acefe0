/-
  voussoirlaw13.VoteOpen: the walk.
-/
import Derived.Test.YtefbdikoichaeaaVtP7
namespace Go.Proofs.Ytefbdikoichaeaa
open Go.RowKit
attribute [local go_sem ↓] Go.wp_at_zero Go.wp_at_succ

/-- what begins leaves; not all vote as they like -/
def BegPost2 (w0 : World) (e : Ending) (w' : World) : Prop := ∃ p n f, e = .returned (.pointer (some ⟨p, 0, none⟩)) ∧ Pl w0 w' p n f (beg n) ∧ Enough n f ∧ 0 < n ∧ n ≤ 100 ∧ f ≤ n
theorem begins_all2 (w0 w : World) (many : Bool) (n0 : New w0 w) : Calls Try.prog 33 #[.bool many] w (BegPost2 w0) := by
  cases many
  · exact (begins4 w0 w n0).mono fun e w' ⟨p, he, hp⟩ => ⟨p, 4, 1, he, hp, enough4, by omega, by omega, by omega⟩
  · exact (begins7 w0 w n0).mono fun e w' ⟨p, he, hp⟩ => ⟨p, 7, 2, he, hp, enough7, by omega, by omega, by omega⟩
set_option maxHeartbeats 8000000 in
set_option maxRecDepth 100000 in
theorem open_walk (many : Bool) (A : Option Addr) (len cap : Nat) (la : List Ac) (W : World) (hla : la.length = len) (h63 : len ≤ 9223372036854775807) (hA : ActsAt W A la) :
    Calls Try.prog 8 #[.bool many, .slice A len cap] W fun e w' => e = .returned (.bool true) ∧ New W w' := by
  go_enter Try.func8, Try.ntmps8
  go_wp2_with fail
  refine (awake_any W W (New.refl W)).mono ?_
  rintro e w1 ⟨rfl, n1⟩
  go_wp2_with fail
  refine (begins_all2 W w1 many n1).mono ?_
  rintro e w2 ⟨p, n, f, rfl, hP, hE, hn0, hn1, hfn⟩
  have HE := Lib.hid hE
  clear n1 hE
  have hI0 := Lib.hid (inv_beg n f)
  obtain ⟨bt, vv, vo, gs, hPA⟩ := hP
  have hcp := hPA.cells.1
  go_upto_block 0 with (fail)
  clear hcp
  go_cut [] (fun wx => ∃ s, Hid (Inv n f s) ∧ Pl W wx p n f s ∧ s.l.length ≤ 151 ∧ ∀ j, vw s.l j ≤ 450)
  case first =>
    go_wp2_with fail
    go_loopw [7] (fun i wr => ∃ (k : Nat) (s : Ps), k ≤ len ∧ k ≤ 150 ∧ i = .int .i64 k ∧ Hid (Inv n f s) ∧ Pl W wr p n f s ∧ s.l.length ≤ k + 1 ∧ ∀ j, vw s.l j ≤ 3 * k)
      (fun i _ => 150 - (intOf i).toNat)
    case atStart => exact ⟨0, _, by omega, by omega, rfl, hI0, ⟨_, _, _, _, hPA⟩, Nat.le_refl _, fun j => by rcases j with _ | j <;> exact Nat.le_refl _⟩
    case round =>
      clear hPA hI0
      obtain ⟨k, s, hk, hk6, rfl, hI, hP, hl, hv⟩ := hrel
      by_cases hlt : k < len
      · by_cases hlt6 : k < 150
        · obtain ⟨bA, oA, rfl, hbA, ⟨i0, i1, i2, i3⟩, c0, c1, c2, c3⟩ := hA k la[k] (List.getElem?_eq_getElem (by omega))
          generalize la[k] = act at *
          have hk0 : (0 : Int) ≤ (k : Int) := Int.natCast_nonneg _
          have hk1 : (k : Int) < (len : Int) := by omega
          have DA := does_any W wr p n f (3 * k) s act i0 i1 i2 i3 hn0 hn1 hI.out (by omega) hv (by omega) hP
          have nr : New W wr := by obtain ⟨_, _, _, _, h⟩ := hP; exact h.tree.new
          have d0 := (nr.cell (p := ⟨bA, oA + k * 4, none⟩) hbA (fun h => h)).trans c0
          have d1 := (nr.cell (p := ⟨bA, oA + k * 4 + 1, none⟩) hbA (fun h => h)).trans c1
          have d2 := (nr.cell (p := ⟨bA, oA + k * 4 + 2, none⟩) hbA (fun h => h)).trans c2
          have d3 := (nr.cell (p := ⟨bA, oA + k * 4 + 3, none⟩) hbA (fun h => h)).trans c3
          have hl2 := hl
          clear hv hP hl c0 c1 c2 c3 nr
          go_wp2_with fail
          refine DA.mono ?_
          rintro e w5 ⟨rfl, s', hst, hP', hv', hl'⟩
          have HI' := Lib.hid (hI.out.step hst)
          have HV' := Lib.hid hv'
          clear DA d0 d1 d2 d3 hI hst hv'
          go_wp2_with fail
          go_roundw
          case rel => exact ⟨k + 1, s', by omega, by omega, by go_num, HI', hP', by omega, fun j => Nat.le_trans (HV'.out j) (by omega)⟩
          case measure => simp [intOf]; omega
        · have HV := Lib.hid hv
          clear hv
          go_wp2_with fail
          go_meet
          case rel => exact ⟨s, hI, hP, by omega, fun j => Nat.le_trans (HV.out j) (by omega)⟩
      · have HV := Lib.hid hv
        clear hv
        go_wp2_with fail
        go_meet
        case rel => exact ⟨s, hI, hP, by omega, fun j => Nat.le_trans (HV.out j) (by omega)⟩
  case rest =>
    obtain ⟨s, hI, ⟨bt', vv', vo', gs', hP⟩, hl, hv⟩ := hcut
    clear hPA hI0 hA
    obtain ⟨bv, cv, rfl⟩ : ∃ bv cv, vv' = .slice (some ⟨bv, 0, none⟩) s.vs.length cv := hP.vvForm (by rw [hI.out.nvs]; exact hn0)
    have hw := hI.out.wf
    have hr1 : s.rows.length ≤ s.l.length := Nat.le_of_eq hI.out.len
    have hr2 : s.l.length ≤ s.rows.length := Nat.le_of_eq hI.out.len.symm
    have hv1 : s.vs.length ≤ n := Nat.le_of_eq hI.out.nvs
    have hv2 : n ≤ s.vs.length := Nat.le_of_eq hI.out.nvs.symm
    have hpos := hw.pos
    obtain ⟨bo, co, rfl⟩ := hP.voForm (by omega)
    have HV := Lib.hid hv
    clear hv
    generalize hvv' : (Value.slice (some ⟨bv, 0, none⟩) s.vs.length cv) = vv' at *
    have HVV := Lib.hid hvv'
    generalize hvo' : (Value.slice (some ⟨bo, 0, none⟩) s.rows.length co) = vo' at *
    have HVO := Lib.hid hvo'
    clear hvv' hvo'
    have hz : vw s.l 0 ≤ 450 := HV.out 0
    go_wp2_with fail
    go_loopw [8, 9, 10] (fun best last b wr => ∃ k bb lt : Nat, k ≤ s.rows.length ∧ b = .int .i64 k ∧ best = .int .i64 bb ∧ last = .int .u64 lt ∧ bb < s.rows.length ∧ cert n s.rows bb = true ∧
        (∀ c, c < k → cert n s.rows c = true → vw s.l c ≤ vw s.l bb) ∧ (∀ c, c < k → vw s.l c ≤ lt) ∧ lt ≤ 450 ∧ PlA W wr p n f s bt' vv' vo' gs')
      (fun _ _ b _ => s.rows.length - (intOf b).toNat)
    case atStart => exact ⟨0, 0, 0, by omega, rfl, rfl, rfl, by omega, rfl, (fun c h => by omega), (fun c h => by omega), by omega, hP⟩
    case round =>
      clear hP
      obtain ⟨k, bb, lt, hk, rfl, rfl, rfl, hbb, hcb, hbest, hlast, hlt4, hP⟩ := hrel
      have hc := hP.cells.2.2.2.2.1
      have HBEST : Hid (∀ c, c < k → cert n s.rows c = true → vw s.l c ≤ vw s.l bb) := hbest
      have HLAST := Lib.hid hlast
      have HCB := Lib.hid hcb
      clear hbest hlast hcb
      by_cases hlt : k < s.rows.length
      · have e1 : decide (k < s.rows.length) = true := by simp [hlt]
        have CT := certified_any W p n f s k hlt (hI.out.nrow k hlt) hn1 wr ⟨_, _, _, _, hP⟩
        have VK := fun w (h : TrN W w bt' s.l) => viewT h (k : Nat)
        rw [viewI_nat (show k < s.l.length by omega)] at VK
        have VB := fun w (h : TrN W w bt' s.l) => viewT h (bb : Nat)
        rw [viewI_nat (show bb < s.l.length by omega)] at VB
        have hmax : (if lt < vw s.l k then (vw s.l k : Int) else (lt : Int)) = ((max lt (vw s.l k) : Nat) : Int) := by split <;> omega
        have HMAX := Lib.hid hmax
        have hvk := HV.out k
        clear hmax
        have HL2 : Hid (∀ c, c < k + 1 → vw s.l c ≤ max lt (vw s.l k)) := by
          intro c hc
          by_cases e : c = k
          · subst e; omega
          · exact Nat.le_trans (HLAST.out c (by omega)) (by omega)
        rw [← HVO.out] at hc
        rcases hct : cert n s.rows k with _ | _
        · rw [hct] at CT
          have HCT := Lib.hid hct
          clear hct
          go_wp2_with fail
          refine CT.mono ?_
          rintro e w' ⟨rfl, rfl⟩
          go_wp2_with fail
          clear hc
          have HB2 : Hid (∀ c, c < k + 1 → cert n s.rows c = true → vw s.l c ≤ vw s.l bb) := by
            rw [Hid] at HBEST
            intro c hc hct
            by_cases e : c = k
            · subst e; rw [HCT.out] at hct; cases hct
            · exact Nat.le_trans (HBEST c (by omega) hct) (by omega)
          refine wp_region_held_drew (S := (fun w' => PlA W w' p n f s bt' vv' vo' gs')) (by kernel_rfl) ?_ (fun hHeld => ?_)
          · exact hP.drew
          refine wpAnyH_take (i := 0) (oi := ⟨some 55, _, _, _, _, _⟩) (v := ?_) rfl (by kernel_rfl) (by kernel_rfl) (by kernel_rfl) (fun _ _ _ h => h) (Or.inl ⟨by rfl, ?_⟩) (by assumption) ?_
          rotate_left
          · (intro wq hSw; (try dsimp only at hSw); go_simp; try with_reducible rfl)
          try simp only [Act.put, List.setIfInBounds_toArray, List.set_cons_zero, List.set_cons_succ]
          refine wpAnyH_take (i := 1) (oi := ⟨some 56, _, _, _, _, _⟩) (v := ?_) rfl (by kernel_rfl) (by kernel_rfl) (by kernel_rfl) (fun _ _ _ h => h) (Or.inl ⟨by rfl, ?_⟩) (by assumption) ?_
          rotate_left
          · (intro wq hSw; (try dsimp only at hSw); go_simp; try with_reducible rfl)
          try simp only [Act.put, List.setIfInBounds_toArray, List.set_cons_zero, List.set_cons_succ]
          refine wpAnyH_take (i := 2) (oi := ⟨some 57, _, _, _, _, _⟩) (v := undef) rfl (by kernel_rfl) (by kernel_rfl) (by kernel_rfl) (fun _ _ _ h => h) (Or.inr ⟨by rfl, rfl⟩) (by assumption) ?_
          try simp only [Act.put, List.setIfInBounds_toArray, List.set_cons_zero, List.set_cons_succ]
          refine wpAnyH_take (i := 3) (oi := ⟨some 58, _, _, _, _, _⟩) (v := undef) rfl (by kernel_rfl) (by kernel_rfl) (by kernel_rfl) (fun _ _ _ h => h) (Or.inr ⟨by rfl, rfl⟩) (by assumption) ?_
          try simp only [Act.put, List.setIfInBounds_toArray, List.set_cons_zero, List.set_cons_succ]
          refine wpAnyH_take (i := 4) (oi := ⟨some 59, _, _, _, _, _⟩) (v := undef) rfl (by kernel_rfl) (by kernel_rfl) (by kernel_rfl) (fun _ _ _ h => h) (Or.inr ⟨by rfl, rfl⟩) (by assumption) ?_
          try simp only [Act.put, List.setIfInBounds_toArray, List.set_cons_zero, List.set_cons_succ]
          refine wpAnyH_take (i := 5) (oi := ⟨some 60, _, _, _, _, _⟩) (v := undef) rfl (by kernel_rfl) (by kernel_rfl) (by kernel_rfl) (fun _ _ _ h => h) (Or.inr ⟨by rfl, rfl⟩) (by assumption) ?_
          try simp only [Act.put, List.setIfInBounds_toArray, List.set_cons_zero, List.set_cons_succ]
          refine wpAnyH_take (i := 6) (oi := ⟨some 61, _, _, _, _, _⟩) (v := undef) rfl (by kernel_rfl) (by kernel_rfl) (by kernel_rfl) (fun _ _ _ h => h) (Or.inr ⟨by rfl, rfl⟩) (by assumption) ?_
          try simp only [Act.put, List.setIfInBounds_toArray, List.set_cons_zero, List.set_cons_succ]
          refine wpAnyH_take (i := 7) (oi := ⟨some 62, _, _, _, _, _⟩) (v := undef) rfl (by kernel_rfl) (by kernel_rfl) (by kernel_rfl) (fun _ _ _ h => h) (Or.inr ⟨by rfl, rfl⟩) (by assumption) ?_
          try simp only [Act.put, List.setIfInBounds_toArray, List.set_cons_zero, List.set_cons_succ]
          refine wpAnyH_take (i := 8) (oi := ⟨some 63, _, _, _, _, _⟩) (v := undef) rfl (by kernel_rfl) (by kernel_rfl) (by kernel_rfl) (fun _ _ _ h => h) (Or.inr ⟨by rfl, rfl⟩) (by assumption) ?_
          try simp only [Act.put, List.setIfInBounds_toArray, List.set_cons_zero, List.set_cons_succ]
          refine wpAnyH_take (i := 9) (oi := ⟨some 64, _, _, _, _, _⟩) (v := undef) rfl (by kernel_rfl) (by kernel_rfl) (by kernel_rfl) (fun _ _ _ h => h) (Or.inr ⟨by rfl, rfl⟩) (by assumption) ?_
          try simp only [Act.put, List.setIfInBounds_toArray, List.set_cons_zero, List.set_cons_succ]
          refine wpAnyH_take (i := 10) (oi := ⟨some 65, _, _, _, _, _⟩) (v := undef) rfl (by kernel_rfl) (by kernel_rfl) (by kernel_rfl) (fun _ _ _ h => h) (Or.inr ⟨by rfl, rfl⟩) (by assumption) ?_
          try simp only [Act.put, List.setIfInBounds_toArray, List.set_cons_zero, List.set_cons_succ]
          refine wpAnyH_take (i := 11) (oi := ⟨some 66, _, _, _, _, _⟩) (v := undef) rfl (by kernel_rfl) (by kernel_rfl) (by kernel_rfl) (fun _ _ _ h => h) (Or.inr ⟨by rfl, rfl⟩) (by assumption) ?_
          try simp only [Act.put, List.setIfInBounds_toArray, List.set_cons_zero, List.set_cons_succ]
          refine wpAnyH_take (i := 12) (oi := ⟨some 67, _, _, _, _, _⟩) (v := undef) rfl (by kernel_rfl) (by kernel_rfl) (by kernel_rfl) (fun _ _ _ h => h) (Or.inr ⟨by rfl, rfl⟩) (by assumption) ?_
          try simp only [Act.put, List.setIfInBounds_toArray, List.set_cons_zero, List.set_cons_succ]
          refine wpAnyH_take (i := 13) (oi := ⟨some 68, _, _, _, _, _⟩) (v := undef) rfl (by kernel_rfl) (by kernel_rfl) (by kernel_rfl) (fun _ _ _ h => h) (Or.inr ⟨by rfl, rfl⟩) (by assumption) ?_
          try simp only [Act.put, List.setIfInBounds_toArray, List.set_cons_zero, List.set_cons_succ]
          refine wpAnyH_take (i := 14) (oi := ⟨some 69, _, _, _, _, _⟩) (v := undef) rfl (by kernel_rfl) (by kernel_rfl) (by kernel_rfl) (fun _ _ _ h => h) (Or.inr ⟨by rfl, rfl⟩) (by assumption) ?_
          try simp only [Act.put, List.setIfInBounds_toArray, List.set_cons_zero, List.set_cons_succ]
          refine wpAnyH_take (i := 15) (oi := ⟨some 70, _, _, _, _, _⟩) (v := ?_) rfl (by kernel_rfl) (by kernel_rfl) (by kernel_rfl) (fun _ _ _ h => h) (Or.inl ⟨by rfl, ?_⟩) (by assumption) ?_
          rotate_left
          · (intro wq hSw; (try dsimp only at hSw); go_simp; try with_reducible rfl)
          try simp only [Act.put, List.setIfInBounds_toArray, List.set_cons_zero, List.set_cons_succ]
          refine wpAnyH_done (by kernel_rfl) ?_ _
          have hP6 := hHeld
          clear hP hHeld
          have hc6 := hP6.cells.1
          go_wp2_with fail
          refine (VK _ hP6.tree).mono ?_
          rintro e w' ⟨rfl, rfl⟩
          go_wp2_with fail
          rw [HMAX.out]
          go_roundw
          case rel => exact ⟨k + 1, bb, max lt (vw s.l k), by omega, by go_num, rfl, rfl, by omega, HCB.out, HB2.out, HL2.out, by omega, hP6⟩
          case measure => simp [intOf]; omega
        · rw [hct] at CT
          have HCT := Lib.hid hct
          clear hct
          go_wp2_with fail
          refine CT.mono ?_
          rintro e w' ⟨rfl, rfl⟩
          go_wp2_with fail
          clear hc
          by_cases hgt : vw s.l bb < vw s.l k
          · have e2 : decide (vw s.l bb < vw s.l k) = true := by simp [hgt]
            have HB2 : Hid (∀ c, c < k + 1 → cert n s.rows c = true → vw s.l c ≤ vw s.l k) := by
              rw [Hid] at HBEST
              intro c hc hct
              by_cases e : c = k
              · subst e; exact Nat.le_refl _
              · exact Nat.le_trans (HBEST c (by omega) hct) (by omega)
            refine wp_region_held_drew (S := (fun w' => PlA W w' p n f s bt' vv' vo' gs')) (by kernel_rfl) ?_ (fun hHeld => ?_)
            · exact hP.drew
            refine wpAnyH_take (i := 0) (oi := ⟨some 55, _, _, _, _, _⟩) (v := ?_) rfl (by kernel_rfl) (by kernel_rfl) (by kernel_rfl) (fun _ _ _ h => h) (Or.inl ⟨by rfl, ?_⟩) (by assumption) ?_
            rotate_left
            · (intro wq hSw; (try dsimp only at hSw); go_simp; try with_reducible rfl)
            try simp only [Act.put, List.setIfInBounds_toArray, List.set_cons_zero, List.set_cons_succ]
            refine wpAnyH_take (i := 1) (oi := ⟨some 56, _, _, _, _, _⟩) (v := ?_) rfl (by kernel_rfl) (by kernel_rfl) (by kernel_rfl) (fun _ _ _ h => h) (Or.inl ⟨by rfl, ?_⟩) (by assumption) ?_
            rotate_left
            · (intro wq hSw; (try dsimp only at hSw); go_simp; try with_reducible rfl)
            try simp only [Act.put, List.setIfInBounds_toArray, List.set_cons_zero, List.set_cons_succ]
            refine wpAnyH_take (i := 2) (oi := ⟨some 57, _, _, _, _, _⟩) (v := ?_) rfl (by kernel_rfl) (by kernel_rfl) (by kernel_rfl) (fun _ _ _ h => h) (Or.inl ⟨by rfl, ?_⟩) (by assumption) ?_
            rotate_left
            · (intro wq hSw; (try dsimp only at hSw); go_simp; try with_reducible rfl)
            try simp only [Act.put, List.setIfInBounds_toArray, List.set_cons_zero, List.set_cons_succ]
            refine wpAnyH_take (i := 3) (oi := ⟨some 58, _, _, _, _, _⟩) (v := ?_) rfl (by kernel_rfl) (by kernel_rfl) (by kernel_rfl) (fun _ _ _ h => h) (Or.inl ⟨by rfl, ?_⟩) (by assumption) ?_
            rotate_left
            · (intro wq hSw; (try dsimp only at hSw); go_simp; try with_reducible rfl)
            try simp only [Act.put, List.setIfInBounds_toArray, List.set_cons_zero, List.set_cons_succ]
            refine wpAnyH_take (i := 4) (oi := ⟨some 59, _, _, _, _, _⟩) (v := ?_) rfl (by kernel_rfl) (by kernel_rfl) (by kernel_rfl) (fun _ _ _ h => h) (Or.inl ⟨by rfl, ?_⟩) (by assumption) ?_
            rotate_left
            · (intro wq hSw; (try dsimp only at hSw); go_simp; try with_reducible rfl)
            try simp only [Act.put, List.setIfInBounds_toArray, List.set_cons_zero, List.set_cons_succ]
            refine wpAnyH_take (i := 5) (oi := ⟨some 60, _, _, _, _, _⟩) (v := ?_) rfl (by kernel_rfl) (by kernel_rfl) (by kernel_rfl) (fun _ _ _ h => h) (Or.inl ⟨by rfl, ?_⟩) (by assumption) ?_
            rotate_left
            · (intro wq hSw; (try dsimp only at hSw); have q := hSw.cells.1; go_simp; try with_reducible rfl)
            try simp only [Act.put, List.setIfInBounds_toArray, List.set_cons_zero, List.set_cons_succ]
            refine wpAnyH_take (i := 6) (oi := ⟨some 61, _, _, _, _, _⟩) (v := ?_) rfl (by kernel_rfl) (by kernel_rfl) (by kernel_rfl) (fun _ _ _ h => h) (Or.inl ⟨by rfl, ?_⟩) (by assumption) ?_
            rotate_left
            · (intro wq hSw; (try dsimp only at hSw); go_simp; try with_reducible rfl)
            try simp only [Act.put, List.setIfInBounds_toArray, List.set_cons_zero, List.set_cons_succ]
            refine wpAnyH_take (i := 8) (oi := ⟨some 63, _, _, _, _, _⟩) (v := ?_) rfl (by kernel_rfl) (by kernel_rfl) (by kernel_rfl) (fun _ _ _ h => h) (Or.inl ⟨by rfl, ?_⟩) (by assumption) ?_
            rotate_left
            · (intro wq hSw; (try dsimp only at hSw); go_simp; try with_reducible rfl)
            try simp only [Act.put, List.setIfInBounds_toArray, List.set_cons_zero, List.set_cons_succ]
            refine wpAnyH_take (i := 9) (oi := ⟨some 64, _, _, _, _, _⟩) (v := ?_) rfl (by kernel_rfl) (by kernel_rfl) (by kernel_rfl) (fun _ _ _ h => h) (Or.inl ⟨by rfl, ?_⟩) (by assumption) ?_
            rotate_left
            · (intro wq hSw; (try dsimp only at hSw); go_simp; try with_reducible rfl)
            try simp only [Act.put, List.setIfInBounds_toArray, List.set_cons_zero, List.set_cons_succ]
            refine wpAnyH_take (i := 10) (oi := ⟨some 65, _, _, _, _, _⟩) (v := ?_) rfl (by kernel_rfl) (by kernel_rfl) (by kernel_rfl) (fun _ _ _ h => h) (Or.inl ⟨by rfl, ?_⟩) (by assumption) ?_
            rotate_left
            · (intro wq hSw; (try dsimp only at hSw); go_simp; try with_reducible rfl)
            try simp only [Act.put, List.setIfInBounds_toArray, List.set_cons_zero, List.set_cons_succ]
            refine wpAnyH_take (i := 11) (oi := ⟨some 66, _, _, _, _, _⟩) (v := ?_) rfl (by kernel_rfl) (by kernel_rfl) (by kernel_rfl) (fun _ _ _ h => h) (Or.inl ⟨by rfl, ?_⟩) (by assumption) ?_
            rotate_left
            · (intro wq hSw; (try dsimp only at hSw); have q := hSw.cells.1; go_simp; try with_reducible rfl)
            try simp only [Act.put, List.setIfInBounds_toArray, List.set_cons_zero, List.set_cons_succ]
            refine wpAnyH_take (i := 12) (oi := ⟨some 67, _, _, _, _, _⟩) (v := ?_) rfl (by kernel_rfl) (by kernel_rfl) (by kernel_rfl) (fun _ _ _ h => h) (Or.inl ⟨by rfl, ?_⟩) (by assumption) ?_
            rotate_left
            · (intro wq hSw; (try dsimp only at hSw); go_simp; try with_reducible rfl)
            try simp only [Act.put, List.setIfInBounds_toArray, List.set_cons_zero, List.set_cons_succ]
            refine wpAnyH_ready (rs := [7]) (by kernel_rfl) (by simp) ?_
            refine AllReadyH.cons (o := ⟨some 62, _, _, _, _, _⟩) rfl (fun K hK => ?_) AllReadyH.nil
            go_simp
            refine (VK _ hHeld.tree).mono ?_; rintro e w' ⟨rfl, rfl⟩
            refine hK.out _ _ hHeld (fun hHeld => ?_)
            clear hK K
            try simp only [Act.put, List.setIfInBounds_toArray, List.set_cons_zero, List.set_cons_succ]
            refine wpAnyH_ready (rs := [13]) (by kernel_rfl) (by simp) ?_
            refine AllReadyH.cons (o := ⟨some 68, _, _, _, _, _⟩) rfl (fun K hK => ?_) AllReadyH.nil
            go_simp
            refine (VB _ hHeld.tree).mono ?_; rintro e w' ⟨rfl, rfl⟩
            refine hK.out _ _ hHeld (fun hHeld => ?_)
            clear hK K
            try simp only [Act.put, List.setIfInBounds_toArray, List.set_cons_zero, List.set_cons_succ]
            refine wpAnyH_take (i := 14) (oi := ⟨some 69, _, _, _, _, _⟩) (v := ?_) rfl (by kernel_rfl) (by kernel_rfl) (by kernel_rfl) (fun _ _ _ h => h) (Or.inl ⟨by rfl, ?_⟩) (by assumption) ?_
            rotate_left
            · (intro wq hSw; (try dsimp only at hSw); go_simp; try with_reducible rfl)
            try simp only [Act.put, List.setIfInBounds_toArray, List.set_cons_zero, List.set_cons_succ]
            refine wpAnyH_take (i := 15) (oi := ⟨some 70, _, _, _, _, _⟩) (v := ?_) rfl (by kernel_rfl) (by kernel_rfl) (by kernel_rfl) (fun _ _ _ h => h) (Or.inl ⟨by rfl, ?_⟩) (by assumption) ?_
            rotate_left
            · (intro wq hSw; (try dsimp only at hSw); go_simp; try with_reducible rfl)
            try simp only [Act.put, List.setIfInBounds_toArray, List.set_cons_zero, List.set_cons_succ]
            refine wpAnyH_done (by kernel_rfl) ?_ _
            have hP6 := hHeld
            clear hP hHeld
            have hc6 := hP6.cells.1
            go_wp2_with fail
            refine (VK _ hP6.tree).mono ?_
            rintro e w' ⟨rfl, rfl⟩
            go_wp2_with fail
            rw [HMAX.out]
            go_roundw
            case rel => exact ⟨k + 1, k, max lt (vw s.l k), by omega, by go_num, rfl, rfl, by omega, HCT.out, HB2.out, HL2.out, by omega, hP6⟩
            case measure => simp [intOf]; omega
          · have e2 : decide (vw s.l bb < vw s.l k) = false := by simp; omega
            have HB2 : Hid (∀ c, c < k + 1 → cert n s.rows c = true → vw s.l c ≤ vw s.l bb) := by
              rw [Hid] at HBEST
              intro c hc hct
              by_cases e : c = k
              · subst e; omega
              · exact Nat.le_trans (HBEST c (by omega) hct) (by omega)
            refine wp_region_held_drew (S := (fun w' => PlA W w' p n f s bt' vv' vo' gs')) (by kernel_rfl) ?_ (fun hHeld => ?_)
            · exact hP.drew
            refine wpAnyH_take (i := 0) (oi := ⟨some 55, _, _, _, _, _⟩) (v := ?_) rfl (by kernel_rfl) (by kernel_rfl) (by kernel_rfl) (fun _ _ _ h => h) (Or.inl ⟨by rfl, ?_⟩) (by assumption) ?_
            rotate_left
            · (intro wq hSw; (try dsimp only at hSw); go_simp; try with_reducible rfl)
            try simp only [Act.put, List.setIfInBounds_toArray, List.set_cons_zero, List.set_cons_succ]
            refine wpAnyH_take (i := 1) (oi := ⟨some 56, _, _, _, _, _⟩) (v := ?_) rfl (by kernel_rfl) (by kernel_rfl) (by kernel_rfl) (fun _ _ _ h => h) (Or.inl ⟨by rfl, ?_⟩) (by assumption) ?_
            rotate_left
            · (intro wq hSw; (try dsimp only at hSw); go_simp; try with_reducible rfl)
            try simp only [Act.put, List.setIfInBounds_toArray, List.set_cons_zero, List.set_cons_succ]
            refine wpAnyH_take (i := 2) (oi := ⟨some 57, _, _, _, _, _⟩) (v := ?_) rfl (by kernel_rfl) (by kernel_rfl) (by kernel_rfl) (fun _ _ _ h => h) (Or.inl ⟨by rfl, ?_⟩) (by assumption) ?_
            rotate_left
            · (intro wq hSw; (try dsimp only at hSw); go_simp; try with_reducible rfl)
            try simp only [Act.put, List.setIfInBounds_toArray, List.set_cons_zero, List.set_cons_succ]
            refine wpAnyH_take (i := 3) (oi := ⟨some 58, _, _, _, _, _⟩) (v := ?_) rfl (by kernel_rfl) (by kernel_rfl) (by kernel_rfl) (fun _ _ _ h => h) (Or.inl ⟨by rfl, ?_⟩) (by assumption) ?_
            rotate_left
            · (intro wq hSw; (try dsimp only at hSw); go_simp; try with_reducible rfl)
            try simp only [Act.put, List.setIfInBounds_toArray, List.set_cons_zero, List.set_cons_succ]
            refine wpAnyH_take (i := 4) (oi := ⟨some 59, _, _, _, _, _⟩) (v := ?_) rfl (by kernel_rfl) (by kernel_rfl) (by kernel_rfl) (fun _ _ _ h => h) (Or.inl ⟨by rfl, ?_⟩) (by assumption) ?_
            rotate_left
            · (intro wq hSw; (try dsimp only at hSw); go_simp; try with_reducible rfl)
            try simp only [Act.put, List.setIfInBounds_toArray, List.set_cons_zero, List.set_cons_succ]
            refine wpAnyH_take (i := 5) (oi := ⟨some 60, _, _, _, _, _⟩) (v := ?_) rfl (by kernel_rfl) (by kernel_rfl) (by kernel_rfl) (fun _ _ _ h => h) (Or.inl ⟨by rfl, ?_⟩) (by assumption) ?_
            rotate_left
            · (intro wq hSw; (try dsimp only at hSw); have q := hSw.cells.1; go_simp; try with_reducible rfl)
            try simp only [Act.put, List.setIfInBounds_toArray, List.set_cons_zero, List.set_cons_succ]
            refine wpAnyH_take (i := 6) (oi := ⟨some 61, _, _, _, _, _⟩) (v := ?_) rfl (by kernel_rfl) (by kernel_rfl) (by kernel_rfl) (fun _ _ _ h => h) (Or.inl ⟨by rfl, ?_⟩) (by assumption) ?_
            rotate_left
            · (intro wq hSw; (try dsimp only at hSw); go_simp; try with_reducible rfl)
            try simp only [Act.put, List.setIfInBounds_toArray, List.set_cons_zero, List.set_cons_succ]
            refine wpAnyH_take (i := 8) (oi := ⟨some 63, _, _, _, _, _⟩) (v := ?_) rfl (by kernel_rfl) (by kernel_rfl) (by kernel_rfl) (fun _ _ _ h => h) (Or.inl ⟨by rfl, ?_⟩) (by assumption) ?_
            rotate_left
            · (intro wq hSw; (try dsimp only at hSw); go_simp; try with_reducible rfl)
            try simp only [Act.put, List.setIfInBounds_toArray, List.set_cons_zero, List.set_cons_succ]
            refine wpAnyH_take (i := 9) (oi := ⟨some 64, _, _, _, _, _⟩) (v := ?_) rfl (by kernel_rfl) (by kernel_rfl) (by kernel_rfl) (fun _ _ _ h => h) (Or.inl ⟨by rfl, ?_⟩) (by assumption) ?_
            rotate_left
            · (intro wq hSw; (try dsimp only at hSw); go_simp; try with_reducible rfl)
            try simp only [Act.put, List.setIfInBounds_toArray, List.set_cons_zero, List.set_cons_succ]
            refine wpAnyH_take (i := 10) (oi := ⟨some 65, _, _, _, _, _⟩) (v := ?_) rfl (by kernel_rfl) (by kernel_rfl) (by kernel_rfl) (fun _ _ _ h => h) (Or.inl ⟨by rfl, ?_⟩) (by assumption) ?_
            rotate_left
            · (intro wq hSw; (try dsimp only at hSw); go_simp; try with_reducible rfl)
            try simp only [Act.put, List.setIfInBounds_toArray, List.set_cons_zero, List.set_cons_succ]
            refine wpAnyH_take (i := 11) (oi := ⟨some 66, _, _, _, _, _⟩) (v := ?_) rfl (by kernel_rfl) (by kernel_rfl) (by kernel_rfl) (fun _ _ _ h => h) (Or.inl ⟨by rfl, ?_⟩) (by assumption) ?_
            rotate_left
            · (intro wq hSw; (try dsimp only at hSw); have q := hSw.cells.1; go_simp; try with_reducible rfl)
            try simp only [Act.put, List.setIfInBounds_toArray, List.set_cons_zero, List.set_cons_succ]
            refine wpAnyH_take (i := 12) (oi := ⟨some 67, _, _, _, _, _⟩) (v := ?_) rfl (by kernel_rfl) (by kernel_rfl) (by kernel_rfl) (fun _ _ _ h => h) (Or.inl ⟨by rfl, ?_⟩) (by assumption) ?_
            rotate_left
            · (intro wq hSw; (try dsimp only at hSw); go_simp; try with_reducible rfl)
            try simp only [Act.put, List.setIfInBounds_toArray, List.set_cons_zero, List.set_cons_succ]
            refine wpAnyH_ready (rs := [7]) (by kernel_rfl) (by simp) ?_
            refine AllReadyH.cons (o := ⟨some 62, _, _, _, _, _⟩) rfl (fun K hK => ?_) AllReadyH.nil
            go_simp
            refine (VK _ hHeld.tree).mono ?_; rintro e w' ⟨rfl, rfl⟩
            refine hK.out _ _ hHeld (fun hHeld => ?_)
            clear hK K
            try simp only [Act.put, List.setIfInBounds_toArray, List.set_cons_zero, List.set_cons_succ]
            refine wpAnyH_ready (rs := [13]) (by kernel_rfl) (by simp) ?_
            refine AllReadyH.cons (o := ⟨some 68, _, _, _, _, _⟩) rfl (fun K hK => ?_) AllReadyH.nil
            go_simp
            refine (VB _ hHeld.tree).mono ?_; rintro e w' ⟨rfl, rfl⟩
            refine hK.out _ _ hHeld (fun hHeld => ?_)
            clear hK K
            try simp only [Act.put, List.setIfInBounds_toArray, List.set_cons_zero, List.set_cons_succ]
            refine wpAnyH_take (i := 14) (oi := ⟨some 69, _, _, _, _, _⟩) (v := ?_) rfl (by kernel_rfl) (by kernel_rfl) (by kernel_rfl) (fun _ _ _ h => h) (Or.inl ⟨by rfl, ?_⟩) (by assumption) ?_
            rotate_left
            · (intro wq hSw; (try dsimp only at hSw); go_simp; try with_reducible rfl)
            try simp only [Act.put, List.setIfInBounds_toArray, List.set_cons_zero, List.set_cons_succ]
            refine wpAnyH_take (i := 15) (oi := ⟨some 70, _, _, _, _, _⟩) (v := ?_) rfl (by kernel_rfl) (by kernel_rfl) (by kernel_rfl) (fun _ _ _ h => h) (Or.inl ⟨by rfl, ?_⟩) (by assumption) ?_
            rotate_left
            · (intro wq hSw; (try dsimp only at hSw); go_simp; try with_reducible rfl)
            try simp only [Act.put, List.setIfInBounds_toArray, List.set_cons_zero, List.set_cons_succ]
            refine wpAnyH_done (by kernel_rfl) ?_ _
            have hP6 := hHeld
            clear hP hHeld
            have hc6 := hP6.cells.1
            go_wp2_with fail
            refine (VK _ hP6.tree).mono ?_
            rintro e w' ⟨rfl, rfl⟩
            go_wp2_with fail
            rw [HMAX.out]
            go_roundw
            case rel => exact ⟨k + 1, bb, max lt (vw s.l k), by omega, by go_num, rfl, rfl, by omega, HCB.out, HB2.out, HL2.out, by omega, hP6⟩
            case measure => simp [intOf]; omega
      · obtain rfl : k = s.rows.length := by omega
        have hbl : bb < s.l.length := by omega
        have hvb : vw s.l bb ≤ lt := HLAST.out bb hbb
        have AD := fun w (h : TrN W w bt' s.l) => addT2 h bb (lt + 1) hbl (by omega) (by unfold U64; omega) (by omega)
        have hwr : IntKind.u64.wrap ((lt : Int) + 1) = ((lt + 1 : Nat) : Int) := by rw [IntWalk.u64_in _ ⟨by omega, by omega⟩]; omega
        have HOP : Hid (∀ i, i < n → mayI (addB s.l bb (lt + 1)) (vtd s.vs i) (lck s.vs i : Nat) (s.l.length : Nat) = true) := fun i hi => by
          rw [Hid] at HBEST
          exact hI.out.open HE.out hbl HCB.out (fun x hx hc => HBEST x (by omega) hc) (fun x hx => HLAST.out x (by omega)) hi
        have hct := hP.cells.1
        rw [← HVO.out] at hc
        go_wp2_with fail
        refine (AD _ hP.tree).mono ?_
        rintro e w5 ⟨rfl, hT5, kt5⟩
        have hP5 := hP.setTree kt5 hT5
        clear hP kt5 hT5 AD hc hct hwr
        have hc5 := hP5.cells
        go_wp2_with fail
        clear hc5
        rw [show ((s.l.length : Nat) : Int) = ((s.l.length : Nat) : Int) from rfl]
        obtain ⟨wo, rfl⟩ : ∃ wo : World, wo = w5 := ⟨_, rfl⟩
        go_loopw [14] (fun i wq => ∃ a : Nat, f ≤ a ∧ a ≤ n ∧ i = .int .i64 a ∧ PlA W wq p n f ⟨addB s.l bb (lt + 1), s.vs, s.rows⟩ bt' vv' vo' gs')
          (fun i _ => n - (intOf i).toNat)
        case atStart => exact ⟨f, Nat.le_refl _, hfn, rfl, hP5⟩
        case round =>
          clear hP5
          obtain ⟨a, hfa, han, rfl, hP⟩ := hrel
          have hc := hP.cells
          by_cases hal : a < n
          · have xa0 : (0 : Int) ≤ (a : Int) := Int.natCast_nonneg _
            have xa1 : (a : Int) < (s.vs.length : Int) := by omega
            have hmt := HOP.out a hal
            have MT := fun w (h : TrN W w bt' (addB s.l bb (lt + 1))) => mayT h (vtd s.vs a) (lck s.vs a : Nat) (s.l.length : Nat)
            rw [hmt] at MT
            clear hmt
            have dvx : ∀ wx, PlA W wx p n f ⟨addB s.l bb (lt + 1), s.vs, s.rows⟩ bt' vv' vo' gs' →
                wx.cell? ⟨bv, a * 2, none⟩ = some (.int .u64 (vtd s.vs a)) ∧ wx.cell? ⟨bv, a * 2 + 1, none⟩ = some (.int .i64 (lck s.vs a)) ∧ wx.cell? ⟨p, 3, none⟩ = some (.slice (some ⟨bv, 0, none⟩) s.vs.length cv) := by
              intro wx hx
              have h3 := hx.cells.2.2.2.1
              rw [← HVV.out] at hx h3
              have hc := PlA.voter (i := a) hx (show a < s.vs.length by omega)
              exact ⟨hc.1, hc.2, h3⟩
            have DV := Lib.hid dvx
            clear dvx
            go_wp2_with fail
            clear hc
            refine wp_region_held_drew (S := (fun w' => PlA W w' p n f ⟨addB s.l bb (lt + 1), s.vs, s.rows⟩ bt' vv' vo' gs')) (by kernel_rfl) ?_ (fun hHeld => ?_)
            · exact hP.drew
            refine wpAnyH_take (i := 0) (oi := ⟨some 103, _, _, _, _, _⟩) (v := ?_) rfl (by kernel_rfl) (by kernel_rfl) (by kernel_rfl) (fun _ _ _ h => h) (Or.inl ⟨by rfl, ?_⟩) (by assumption) ?_
            rotate_left
            · (intro wq hSw; (try dsimp only at hSw); go_simp; try with_reducible rfl)
            try simp only [Act.put, List.setIfInBounds_toArray, List.set_cons_zero, List.set_cons_succ]
            refine wpAnyH_take (i := 1) (oi := ⟨some 104, _, _, _, _, _⟩) (v := ?_) rfl (by kernel_rfl) (by kernel_rfl) (by kernel_rfl) (fun _ _ _ h => h) (Or.inl ⟨by rfl, ?_⟩) (by assumption) ?_
            rotate_left
            · (intro wq hSw; (try dsimp only at hSw); go_simp; try with_reducible rfl)
            try simp only [Act.put, List.setIfInBounds_toArray, List.set_cons_zero, List.set_cons_succ]
            refine wpAnyH_take (i := 2) (oi := ⟨some 105, _, _, _, _, _⟩) (v := ?_) rfl (by kernel_rfl) (by kernel_rfl) (by kernel_rfl) (fun _ _ _ h => h) (Or.inl ⟨by rfl, ?_⟩) (by assumption) ?_
            rotate_left
            · (intro wq hSw; (try dsimp only at hSw); go_simp; try with_reducible rfl)
            try simp only [Act.put, List.setIfInBounds_toArray, List.set_cons_zero, List.set_cons_succ]
            refine wpAnyH_take (i := 3) (oi := ⟨some 106, _, _, _, _, _⟩) (v := ?_) rfl (by kernel_rfl) (by kernel_rfl) (by kernel_rfl) (fun _ _ _ h => h) (Or.inl ⟨by rfl, ?_⟩) (by assumption) ?_
            rotate_left
            · (intro wq hSw; (try dsimp only at hSw); have q := hSw.cells.1; go_simp; try with_reducible rfl)
            try simp only [Act.put, List.setIfInBounds_toArray, List.set_cons_zero, List.set_cons_succ]
            refine wpAnyH_take (i := 4) (oi := ⟨some 107, _, _, _, _, _⟩) (v := ?_) rfl (by kernel_rfl) (by kernel_rfl) (by kernel_rfl) (fun _ _ _ h => h) (Or.inl ⟨by rfl, ?_⟩) (by assumption) ?_
            rotate_left
            · (intro wq hSw; (try dsimp only at hSw); go_simp; try with_reducible rfl)
            try simp only [Act.put, List.setIfInBounds_toArray, List.set_cons_zero, List.set_cons_succ]
            refine wpAnyH_take (i := 5) (oi := ⟨some 108, _, _, _, _, _⟩) (v := ?_) rfl (by kernel_rfl) (by kernel_rfl) (by kernel_rfl) (fun _ _ _ h => h) (Or.inl ⟨by rfl, ?_⟩) (by assumption) ?_
            rotate_left
            · (intro wq hSw; (try dsimp only at hSw); go_simp; try with_reducible rfl)
            try simp only [Act.put, List.setIfInBounds_toArray, List.set_cons_zero, List.set_cons_succ]
            refine wpAnyH_take (i := 6) (oi := ⟨some 109, _, _, _, _, _⟩) (v := ?_) rfl (by kernel_rfl) (by kernel_rfl) (by kernel_rfl) (fun _ _ _ h => h) (Or.inl ⟨by rfl, ?_⟩) (by assumption) ?_
            rotate_left
            · (intro wq hSw; (try dsimp only at hSw); go_simp; try with_reducible rfl)
            try simp only [Act.put, List.setIfInBounds_toArray, List.set_cons_zero, List.set_cons_succ]
            refine wpAnyH_take (i := 7) (oi := ⟨some 110, _, _, _, _, _⟩) (v := ?_) rfl (by kernel_rfl) (by kernel_rfl) (by kernel_rfl) (fun _ _ _ h => h) (Or.inl ⟨by rfl, ?_⟩) (by assumption) ?_
            rotate_left
            · (intro wq hSw; (try dsimp only at hSw); have q := DV.out _ hSw; go_simp; try with_reducible rfl)
            try simp only [Act.put, List.setIfInBounds_toArray, List.set_cons_zero, List.set_cons_succ]
            refine wpAnyH_take (i := 8) (oi := ⟨some 111, _, _, _, _, _⟩) (v := ?_) rfl (by kernel_rfl) (by kernel_rfl) (by kernel_rfl) (fun _ _ _ h => h) (Or.inl ⟨by rfl, ?_⟩) (by assumption) ?_
            rotate_left
            · (intro wq hSw; (try dsimp only at hSw); go_simp; try with_reducible rfl)
            try simp only [Act.put, List.setIfInBounds_toArray, List.set_cons_zero, List.set_cons_succ]
            refine wpAnyH_take (i := 9) (oi := ⟨some 112, _, _, _, _, _⟩) (v := ?_) rfl (by kernel_rfl) (by kernel_rfl) (by kernel_rfl) (fun _ _ _ h => h) (Or.inl ⟨by rfl, ?_⟩) (by assumption) ?_
            rotate_left
            · (intro wq hSw; (try dsimp only at hSw); go_simp; try with_reducible rfl)
            try simp only [Act.put, List.setIfInBounds_toArray, List.set_cons_zero, List.set_cons_succ]
            refine wpAnyH_take (i := 10) (oi := ⟨some 113, _, _, _, _, _⟩) (v := ?_) rfl (by kernel_rfl) (by kernel_rfl) (by kernel_rfl) (fun _ _ _ h => h) (Or.inl ⟨by rfl, ?_⟩) (by assumption) ?_
            rotate_left
            · (intro wq hSw; (try dsimp only at hSw); have q := DV.out _ hSw; go_simp; try with_reducible rfl)
            try simp only [Act.put, List.setIfInBounds_toArray, List.set_cons_zero, List.set_cons_succ]
            refine wpAnyH_take (i := 11) (oi := ⟨some 114, _, _, _, _, _⟩) (v := ?_) rfl (by kernel_rfl) (by kernel_rfl) (by kernel_rfl) (fun _ _ _ h => h) (Or.inl ⟨by rfl, ?_⟩) (by assumption) ?_
            rotate_left
            · (intro wq hSw; (try dsimp only at hSw); go_simp; try with_reducible rfl)
            try simp only [Act.put, List.setIfInBounds_toArray, List.set_cons_zero, List.set_cons_succ]
            refine wpAnyH_ready (rs := [12]) (by kernel_rfl) (by simp) ?_
            refine AllReadyH.cons (o := ⟨some 115, _, _, _, _, _⟩) rfl (fun K hK => ?_) AllReadyH.nil
            go_simp
            refine (MT _ hHeld.tree).mono ?_; rintro e w7 ⟨rfl, k7⟩
            refine hK.out _ _ (hHeld.keep k7) (fun hHeld => ?_)
            clear hK K
            try simp only [Act.put, List.setIfInBounds_toArray, List.set_cons_zero, List.set_cons_succ]
            refine wpAnyH_take (i := 13) (oi := ⟨some 116, _, _, _, _, _⟩) (v := ?_) rfl (by kernel_rfl) (by kernel_rfl) (by kernel_rfl) (fun _ _ _ h => h) (Or.inl ⟨by rfl, ?_⟩) (by assumption) ?_
            rotate_left
            · (intro wq hSw; (try dsimp only at hSw); go_simp; try with_reducible rfl)
            try simp only [Act.put, List.setIfInBounds_toArray, List.set_cons_zero, List.set_cons_succ]
            refine wpAnyH_done (by kernel_rfl) ?_ _
            go_wp2_with fail
            go_roundw
            case rel => exact ⟨a + 1, by omega, by omega, by go_num, hHeld⟩
            case measure => simp [intOf]; omega
          · obtain rfl : a = n := by omega
            go_wp2_with fail
            go_ret
            exact ⟨rfl, hP.tree.new⟩
end Go.Proofs.Ytefbdikoichaeaa
