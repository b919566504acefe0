/-
  voussoirlaw13.VoteThree: the walk.
-/
import Derived.Test.YtefbdikoichaeaaVt9
import Derived.Deep.CutBlock
import Derived.Deep.DeepCutAuto
import Derived.Deep.RegionHeld3
import Derived.Deep.DrawnRows
namespace Go.Proofs.Ytefbdikoichaeaa
open Go.RowKit
attribute [local go_sem ↓] Go.wp_at_zero Go.wp_at_succ

set_option maxHeartbeats 8000000 in
set_option maxRecDepth 100000 in
theorem three_walk (A : Option Addr) (len cap : Nat) (la : List Ac) (a b : Int) (W : World) (hla : la.length = len) (h63 : len ≤ 9223372036854775807) (hA : ActsAt W A la) (ia : I64 a) (ib : I64 b) :
    Calls Try.prog 5 #[.slice A len cap, .int .i64 a, .int .i64 b] W fun e w' => e = .returned (.bool true) ∧ New W w' := by
  go_enter Try.func5, Try.ntmps5
  go_wp2_with fail
  refine (awake_any W W (New.refl W)).mono ?_
  rintro e w1 ⟨rfl, n1⟩
  go_wp2_with fail
  refine (newT W w1 n1).mono ?_
  rintro e w2 ⟨rfl, hT⟩
  have hB : W.heap.size ≤ w1.heap.size + 1 := hT.2.2.1
  generalize w1.heap.size + 1 = B at *
  clear n1
  go_upto_block 0 with (fail)
  go_cut [] (fun wx => ∃ l, TrN W wx B l ∧ l.length ≤ 61 ∧ ∀ j, vw l j ≤ 120)
  case first =>
    go_wp2_with fail
    go_loopw [9] (fun i wr => ∃ (k : Nat) (l : List Bl), k ≤ len ∧ k ≤ 60 ∧ i = .int .i64 k ∧ TrN W wr B l ∧ l.length = k + 1 ∧ ∀ j, vw l j ≤ 2 * k)
      (fun i _ => 60 - (intOf i).toNat)
    case atStart => exact ⟨0, _, by omega, by omega, rfl, hT, rfl, fun j => by rcases j with _ | j <;> exact Nat.le_refl _⟩
    case round =>
      clear hT
      obtain ⟨k, l, hk, hk6, rfl, hT, hl, hv⟩ := hrel
      by_cases hlt : k < len
      · by_cases hlt6 : k < 60
        · obtain ⟨bA, oA, rfl, hbA, ⟨i0, i1, i2, i3⟩, c0, c1, c2, c3⟩ := hA k la[k] (List.getElem?_eq_getElem (by omega))
          generalize la[k] = act at *
          have hk0 : (0 : Int) ≤ (k : Int) := Int.natCast_nonneg _
          have hk1 : (k : Int) < (len : Int) := by omega
          have hp := pk_lt act.on l.length (by omega)
          have hq := pk_lt act.view 2 (by omega)
          have X1 := fun w => pick_any act.on l.length w i1 (by omega) (by omega)
          have X2 : ∀ w, Calls Try.prog 13 #[.int .i64 act.view, .int .i64 2] w fun e w' => e = .returned (.int .i64 (pk act.view 2)) ∧ w = w' := fun w => pick_any act.view 2 w i2 (by omega) (by omega)
          have hvp := hv (pk act.on l.length)
          have V1 := fun w (h : TrN W w B l) => viewT h (pk act.on l.length : Nat)
          rw [viewI_nat hp] at V1
          have hv2 : ∀ v, v ≤ 2 * (k + 1) → ∀ j, vw (addB l (pk act.on l.length) v) j ≤ 2 * (k + 1) := by
            intro v hv0 j
            by_cases e : j < l.length
            · rw [vw_addB _ _ _ e]; have := hv j; omega
            · by_cases e2 : j = l.length
              · subst e2; rw [vw_addB_new]; exact hv0
              · rw [vw_beyond _ (by rw [addB_length]; omega)]; omega
          have A1 := fun w (h : TrN W w B l) => addT h (pk act.on l.length) (vw l (pk act.on l.length) + 1 + pk act.view 2) hp (by omega) (by unfold U64; omega) (by omega)
          have HF : Hid (∀ j, vw (addB l (pk act.on l.length) (vw l (pk act.on l.length) + 1 + pk act.view 2)) j ≤ 2 * (k + 1)) := hv2 _ (by omega)
          have HL : Hid ((addB l (pk act.on l.length) (vw l (pk act.on l.length) + 1 + pk act.view 2)).length = k + 1 + 1) := by rw [Hid, addB_length, hl]
          have g1 : IntKind.u64.wrap ((vw l (pk act.on l.length) : Int) + 1) = (vw l (pk act.on l.length) : Int) + 1 := IntWalk.u64_in _ ⟨by omega, by omega⟩
          have g3 : IntKind.u64.wrap (pk act.view 2 : Int) = (pk act.view 2 : Int) := IntWalk.u64_in _ ⟨by omega, by omega⟩
          have g2 : IntKind.u64.wrap ((vw l (pk act.on l.length) : Int) + 1 + (pk act.view 2 : Int)) = ((vw l (pk act.on l.length) + 1 + pk act.view 2 : Nat) : Int) := by
            rw [IntWalk.u64_in _ ⟨by omega, by omega⟩]; omega
          have HLL := Lib.hid hl
          clear hv hv2 hvp hl
          generalize pk act.view 2 = y at *
          generalize hpp : pk act.on l.length = p at *
          clear hpp
          generalize vw l p = vp at *
          go_wp2_with fail
          refine wp_region_held_drew (S := (fun w' => TrN W w' B l)) (by kernel_rfl) ?_ (fun hHeld => ?_)
          · exact hT.drew
          refine wpAnyH_take (i := 0) (oi := ⟨some 33, _, _, _, _, _⟩) (v := ?_) rfl (by kernel_rfl) (by kernel_rfl) (by kernel_rfl) (fun _ _ _ h => h) (Or.inl ⟨by rfl, ?_⟩) (by assumption) ?_
          rotate_left
          · (intro wq hSw; (try dsimp only at hSw); go_simp; try with_reducible rfl)
          try simp only [Act.put, List.setIfInBounds_toArray, List.set_cons_zero, List.set_cons_succ]
          refine wpAnyH_take (i := 1) (oi := ⟨some 34, _, _, _, _, _⟩) (v := ?_) rfl (by kernel_rfl) (by kernel_rfl) (by kernel_rfl) (fun _ _ _ h => h) (Or.inl ⟨by rfl, ?_⟩) (by assumption) ?_
          rotate_left
          · (intro wq hSw; (try dsimp only at hSw); go_simp; try with_reducible rfl)
          try simp only [Act.put, List.setIfInBounds_toArray, List.set_cons_zero, List.set_cons_succ]
          refine wpAnyH_take (i := 2) (oi := ⟨some 35, _, _, _, _, _⟩) (v := ?_) rfl (by kernel_rfl) (by kernel_rfl) (by kernel_rfl) (fun _ _ _ h => h) (Or.inl ⟨by rfl, ?_⟩) (by assumption) ?_
          rotate_left
          · (intro wq hSw; (try dsimp only at hSw); go_simp; try with_reducible rfl)
          try simp only [Act.put, List.setIfInBounds_toArray, List.set_cons_zero, List.set_cons_succ]
          refine wpAnyH_take (i := 3) (oi := ⟨some 36, _, _, _, _, _⟩) (v := ?_) rfl (by kernel_rfl) (by kernel_rfl) (by kernel_rfl) (fun _ _ _ h => h) (Or.inl ⟨by rfl, ?_⟩) (by assumption) ?_
          rotate_left
          · (intro wq hSw; (try dsimp only at hSw); go_simp; try with_reducible rfl)
          try simp only [Act.put, List.setIfInBounds_toArray, List.set_cons_zero, List.set_cons_succ]
          refine wpAnyH_take (i := 4) (oi := ⟨some 37, _, _, _, _, _⟩) (v := ?_) rfl (by kernel_rfl) (by kernel_rfl) (by kernel_rfl) (fun _ _ _ h => h) (Or.inl ⟨by rfl, ?_⟩) (by assumption) ?_
          rotate_left
          · (intro wq hSw; (try dsimp only at hSw); have d := (hSw.new.cell (p := ⟨bA, oA + k * 4 + 1, none⟩) hbA (fun h => h)).trans c1; go_simp; try with_reducible rfl)
          try simp only [Act.put, List.setIfInBounds_toArray, List.set_cons_zero, List.set_cons_succ]
          refine wpAnyH_take (i := 5) (oi := ⟨some 38, _, _, _, _, _⟩) (v := ?_) rfl (by kernel_rfl) (by kernel_rfl) (by kernel_rfl) (fun _ _ _ h => h) (Or.inl ⟨by rfl, ?_⟩) (by assumption) ?_
          rotate_left
          · (intro wq hSw; (try dsimp only at hSw); go_simp; try with_reducible rfl)
          try simp only [Act.put, List.setIfInBounds_toArray, List.set_cons_zero, List.set_cons_succ]
          refine wpAnyH_ready (rs := [6]) (by kernel_rfl) (by simp) ?_
          refine AllReadyH.cons (o := ⟨some 39, _, _, _, _, _⟩) rfl (fun K hK => ?_) AllReadyH.nil
          go_simp
          refine (lenT hHeld).mono ?_; rintro e w' ⟨rfl, rfl⟩
          refine hK.out _ _ hHeld (fun hHeld => ?_)
          clear hK K
          try simp only [Act.put, List.setIfInBounds_toArray, List.set_cons_zero, List.set_cons_succ]
          refine wpAnyH_ready (rs := [7]) (by kernel_rfl) (by simp) ?_
          refine AllReadyH.cons (o := ⟨some 40, _, _, _, _, _⟩) rfl (fun K hK => ?_) AllReadyH.nil
          go_simp
          refine (X1 _).mono ?_; rintro e w' ⟨rfl, rfl⟩
          refine hK.out _ _ hHeld (fun hHeld => ?_)
          clear hK K
          try simp only [Act.put, List.setIfInBounds_toArray, List.set_cons_zero, List.set_cons_succ]
          refine wpAnyH_take (i := 8) (oi := ⟨some 10, _, _, _, _, _⟩) (v := ?_) rfl (by kernel_rfl) (by kernel_rfl) (by kernel_rfl) (fun _ _ _ h => h) (Or.inl ⟨by rfl, ?_⟩) (by assumption) ?_
          rotate_left
          · (intro wq hSw; (try dsimp only at hSw); go_simp; try with_reducible rfl)
          try simp only [Act.put, List.setIfInBounds_toArray, List.set_cons_zero, List.set_cons_succ]
          refine wpAnyH_done (by kernel_rfl) ?_ _
          have hTd := hHeld.drew
          clear hT hHeld
          go_wp2_with fail
          refine wp_region_held_drew (S := (fun w' => New W w')) (by kernel_rfl) ?_ (fun hHeld => ?_)
          · exact hTd.new
          refine wpAnyH_take (i := 0) (oi := ⟨some 41, _, _, _, _, _⟩) (v := ?_) rfl (by kernel_rfl) (by kernel_rfl) (by kernel_rfl) (fun _ _ _ h => h) (Or.inl ⟨by rfl, ?_⟩) (by assumption) ?_
          rotate_left
          · (intro wq hSw; (try dsimp only at hSw); go_simp; try with_reducible rfl)
          try simp only [Act.put, List.setIfInBounds_toArray, List.set_cons_zero, List.set_cons_succ]
          refine wpAnyH_take (i := 1) (oi := ⟨some 42, _, _, _, _, _⟩) (v := ?_) rfl (by kernel_rfl) (by kernel_rfl) (by kernel_rfl) (fun _ _ _ h => h) (Or.inl ⟨by rfl, ?_⟩) (by assumption) ?_
          rotate_left
          · (intro wq hSw; (try dsimp only at hSw); go_simp; try with_reducible rfl)
          try simp only [Act.put, List.setIfInBounds_toArray, List.set_cons_zero, List.set_cons_succ]
          refine wpAnyH_take (i := 2) (oi := ⟨some 43, _, _, _, _, _⟩) (v := ?_) rfl (by kernel_rfl) (by kernel_rfl) (by kernel_rfl) (fun _ _ _ h => h) (Or.inl ⟨by rfl, ?_⟩) (by assumption) ?_
          rotate_left
          · (intro wq hSw; (try dsimp only at hSw); go_simp; try with_reducible rfl)
          try simp only [Act.put, List.setIfInBounds_toArray, List.set_cons_zero, List.set_cons_succ]
          refine wpAnyH_take (i := 3) (oi := ⟨some 44, _, _, _, _, _⟩) (v := ?_) rfl (by kernel_rfl) (by kernel_rfl) (by kernel_rfl) (fun _ _ _ h => h) (Or.inl ⟨by rfl, ?_⟩) (by assumption) ?_
          rotate_left
          · (intro wq hSw; (try dsimp only at hSw); go_simp; try with_reducible rfl)
          try simp only [Act.put, List.setIfInBounds_toArray, List.set_cons_zero, List.set_cons_succ]
          refine wpAnyH_take (i := 6) (oi := ⟨some 47, _, _, _, _, _⟩) (v := ?_) rfl (by kernel_rfl) (by kernel_rfl) (by kernel_rfl) (fun _ _ _ h => h) (Or.inl ⟨by rfl, ?_⟩) (by assumption) ?_
          rotate_left
          · (intro wq hSw; (try dsimp only at hSw); go_simp; try with_reducible rfl)
          try simp only [Act.put, List.setIfInBounds_toArray, List.set_cons_zero, List.set_cons_succ]
          refine wpAnyH_take (i := 7) (oi := ⟨some 48, _, _, _, _, _⟩) (v := ?_) rfl (by kernel_rfl) (by kernel_rfl) (by kernel_rfl) (fun _ _ _ h => h) (Or.inl ⟨by rfl, ?_⟩) (by assumption) ?_
          rotate_left
          · (intro wq hSw; (try dsimp only at hSw); go_simp; try with_reducible rfl)
          try simp only [Act.put, List.setIfInBounds_toArray, List.set_cons_zero, List.set_cons_succ]
          refine wpAnyH_take (i := 8) (oi := ⟨some 49, _, _, _, _, _⟩) (v := ?_) rfl (by kernel_rfl) (by kernel_rfl) (by kernel_rfl) (fun _ _ _ h => h) (Or.inl ⟨by rfl, ?_⟩) (by assumption) ?_
          rotate_left
          · (intro wq hSw; (try dsimp only at hSw); go_simp; try with_reducible rfl)
          try simp only [Act.put, List.setIfInBounds_toArray, List.set_cons_zero, List.set_cons_succ]
          refine wpAnyH_take (i := 9) (oi := ⟨some 50, _, _, _, _, _⟩) (v := ?_) rfl (by kernel_rfl) (by kernel_rfl) (by kernel_rfl) (fun _ _ _ h => h) (Or.inl ⟨by rfl, ?_⟩) (by assumption) ?_
          rotate_left
          · (intro wq hSw; (try dsimp only at hSw); go_simp; try with_reducible rfl)
          try simp only [Act.put, List.setIfInBounds_toArray, List.set_cons_zero, List.set_cons_succ]
          refine wpAnyH_take (i := 10) (oi := ⟨some 51, _, _, _, _, _⟩) (v := ?_) rfl (by kernel_rfl) (by kernel_rfl) (by kernel_rfl) (fun _ _ _ h => h) (Or.inl ⟨by rfl, ?_⟩) (by assumption) ?_
          rotate_left
          · (intro wq hSw; (try dsimp only at hSw); have d := (hSw.cell (p := ⟨bA, oA + k * 4 + 2, none⟩) hbA (fun h => h)).trans c2; go_simp; try with_reducible rfl)
          try simp only [Act.put, List.setIfInBounds_toArray, List.set_cons_zero, List.set_cons_succ]
          refine wpAnyH_ready (rs := [4]) (by kernel_rfl) (by simp) ?_
          refine AllReadyH.cons (o := ⟨some 45, _, _, _, _, _⟩) rfl (fun K hK => ?_) AllReadyH.nil
          go_simp
          refine (V1 _ hTd).mono ?_; rintro e w' ⟨rfl, rfl⟩
          refine hK.out _ _ hHeld (fun hHeld => ?_)
          clear hK K
          try simp only [Act.put, List.setIfInBounds_toArray, List.set_cons_zero, List.set_cons_succ]
          refine wpAnyH_take (i := 5) (oi := ⟨some 46, _, _, _, _, _⟩) (v := ?_) rfl (by kernel_rfl) (by kernel_rfl) (by kernel_rfl) (fun _ _ _ h => h) (Or.inl ⟨by rfl, ?_⟩) (by assumption) ?_
          rotate_left
          · (intro wq hSw; (try dsimp only at hSw); go_simp; try with_reducible rfl)
          try simp only [Act.put, List.setIfInBounds_toArray, List.set_cons_zero, List.set_cons_succ]
          refine wpAnyH_ready (rs := [11]) (by kernel_rfl) (by simp) ?_
          refine AllReadyH.cons (o := ⟨some 52, _, _, _, _, _⟩) rfl (fun K hK => ?_) AllReadyH.nil
          go_simp
          refine (X2 _).mono ?_; rintro e w' ⟨rfl, rfl⟩
          refine hK.out _ _ hHeld (fun hHeld => ?_)
          clear hK K
          try simp only [Act.put, List.setIfInBounds_toArray, List.set_cons_zero, List.set_cons_succ]
          refine wpAnyH_take (i := 12) (oi := ⟨some 53, _, _, _, _, _⟩) (v := ?_) rfl (by kernel_rfl) (by kernel_rfl) (by kernel_rfl) (fun _ _ _ h => h) (Or.inl ⟨by rfl, ?_⟩) (by assumption) ?_
          rotate_left
          · (intro wq hSw; (try dsimp only at hSw); go_simp; try with_reducible rfl)
          try simp only [Act.put, List.setIfInBounds_toArray, List.set_cons_zero, List.set_cons_succ]
          refine wpAnyH_take (i := 13) (oi := ⟨some 54, _, _, _, _, _⟩) (v := ?_) rfl (by kernel_rfl) (by kernel_rfl) (by kernel_rfl) (fun _ _ _ h => h) (Or.inl ⟨by rfl, ?_⟩) (by assumption) ?_
          rotate_left
          · (intro wq hSw; (try dsimp only at hSw); go_simp; try with_reducible rfl)
          try simp only [Act.put, List.setIfInBounds_toArray, List.set_cons_zero, List.set_cons_succ]
          refine wpAnyH_ready (rs := [14]) (by kernel_rfl) (by simp) ?_
          refine AllReadyH.cons (o := ⟨some 55, _, _, _, _, _⟩) rfl (fun K hK => ?_) AllReadyH.nil
          go_simp
          refine (A1 _ hTd).mono ?_; rintro e w5 ⟨rfl, hT5⟩
          refine hK.out _ _ (hT5.new) (fun hHeld => ?_)
          clear hK K
          try simp only [Act.put, List.setIfInBounds_toArray, List.set_cons_zero, List.set_cons_succ]
          refine wpAnyH_done (by kernel_rfl) ?_ _
          go_wp2_with fail
          go_roundw
          case rel => exact ⟨k + 1, _, by omega, by omega, by go_num, hT5, HL.out, HF.out⟩
          case measure => simp [intOf]; omega
        · go_wp2_with fail
          go_meet
          case rel => exact ⟨l, hT, by omega, fun j => Nat.le_trans (hv j) (by omega)⟩
      · go_wp2_with fail
        go_meet
        case rel => exact ⟨l, hT, by omega, fun j => Nat.le_trans (hv j) (by omega)⟩
  case rest =>
    obtain ⟨l, hT, hl, hv⟩ := hcut
    have hw := hT.wf
    have hpos := hw.pos
    have PA := fun w => pick_any a l.length w ia (by omega) (by omega)
    have PB := fun w => pick_any b l.length w ib (by omega) (by omega)
    have la' := pk_lt a l.length (by omega)
    have lb' := pk_lt b l.length (by omega)
    generalize pk a l.length = xa at *
    generalize pk b l.length = xb at *
    clear hA ia ib hB
    go_wp2_with fail
    refine (lenT hT).mono ?_
    rintro e w' ⟨rfl, rfl⟩
    go_wp2_with fail
    refine (PA _).mono ?_
    rintro e w' ⟨rfl, rfl⟩
    go_wp2_with fail
    refine (lenT hT).mono ?_
    rintro e w' ⟨rfl, rfl⟩
    go_wp2_with fail
    refine (PB _).mono ?_
    rintro e w' ⟨rfl, rfl⟩
    clear PA PB
    have l1 := hw.pr_lt la'
    have l2 := hw.pr_lt l1
    have l3 := hw.pr_lt l2
    have Q1 := fun w (h : TrN W w B l) => parT h (xa : Nat)
    rw [parI_nat la'] at Q1
    have Q2 := fun w (h : TrN W w B l) => parT h (pr l xa : Nat)
    rw [parI_nat l1] at Q2
    have Q3 := fun w (h : TrN W w B l) => parT h (pr l (pr l xa) : Nat)
    rw [parI_nat l2] at Q3
    have HH := fun w (h : TrN W w B l) => htT h (xa : Nat)
    rw [htI_nat la'] at HH
    have V1 := fun w (h : TrN W w B l) => viewT h (pr l xa : Nat)
    rw [viewI_nat l1] at V1
    have V2 := fun w (h : TrN W w B l) => viewT h (pr l (pr l xa) : Nat)
    rw [viewI_nat l2] at V2
    have V3 := fun w (h : TrN W w B l) => viewT h (pr l (pr l (pr l xa)) : Nat)
    rw [viewI_nat l3] at V3
    have CA := fun w (h : TrN W w B l) => comT h (xa : Nat)
    rw [comI_nat la'] at CA
    have CB := fun w (h : TrN W w B l) => comT h (xb : Nat)
    rw [comI_nat lb'] at CB
    have EAB := fun w (h : TrN W w B l) => extT h (xa : Nat) (xb : Nat)
    rw [extI_nat la' lb'] at EAB
    have CM1 := fun w (h : TrN W w B l) => comT h (-1)
    rw [comI_out (by unfold inT; simp)] at CM1
    have CMN := fun w (h : TrN W w B l) => comT h (l.length : Nat)
    rw [comI_out (by unfold inT; simp)] at CMN
    have hhigh := hw.com_high la'
    have bu1 := hv (pr l xa)
    have bu2 := hv (pr l (pr l xa))
    have bu3 := hv (pr l (pr l (pr l xa)))
    have hca := hw.com_cases la'
    have hcb := hw.com_cases lb'
    have hext := fun ca cb => hw.com_ext (ca := ca) (cb := cb) la' lb'
    have hha := hw.ht_le xa la'
    obtain ⟨cb, hcd⟩ : ∃ cb : Bool, cb = (decide (3 ≤ ht l xa) && decide (vw l (pr l xa) = vw l (pr l (pr l xa)) + 1) && decide (vw l (pr l (pr l xa)) = vw l (pr l (pr l (pr l xa))) + 1)) := ⟨_, rfl⟩
    have HC := Lib.hid hcd
    have HW : Hid ((if cb then (pr l (pr l (pr l xa)) : Int) else -1) = comN l xa) := by
      show _ = _
      rw [hhigh, hcd]
      by_cases c1 : 3 ≤ ht l xa <;> by_cases c2 : vw l (pr l xa) = vw l (pr l (pr l xa)) + 1 <;> by_cases c3 : vw l (pr l (pr l xa)) = vw l (pr l (pr l (pr l xa))) + 1 <;> simp [c1, c2, c3]
    have HA1 := Lib.hid hca
    have HB1 := Lib.hid hcb
    have HE := Lib.hid hext
    clear hcd hhigh hv hca hcb hext
    have gq : IntKind.u64.wrap ((vw l (pr l (pr l xa)) : Int) + 1) = (vw l (pr l (pr l xa)) : Int) + 1 := IntWalk.u64_in _ ⟨by omega, by omega⟩
    have gr : IntKind.u64.wrap ((vw l (pr l (pr l (pr l xa))) : Int) + 1) = (vw l (pr l (pr l (pr l xa))) : Int) + 1 := IntWalk.u64_in _ ⟨by omega, by omega⟩
    go_wp2_with fail
    refine (Q1 _ hT).mono ?_
    rintro e w1 ⟨rfl, k1⟩
    have hT1 := hT.keep k1
    clear hT k1
    go_wp2_with fail
    refine (Q2 _ hT1).mono ?_
    rintro e w2 ⟨rfl, k2⟩
    have hT2 := hT1.keep k2
    clear hT1 k2
    go_wp2_with fail
    refine (Q3 _ hT2).mono ?_
    rintro e w3 ⟨rfl, k3⟩
    have hT3 := hT2.keep k3
    clear hT2 k3
    clear Q1 Q2 Q3
    go_upto_region 16 with (fail)
    go_cut [96] (fun s wx => s = .bool cb ∧ TrN W wx B l)
    case first =>
      by_cases c1 : 3 ≤ ht l xa
      · have e1 : decide ((3 : Int) ≤ (ht l xa : Int)) = true := by simp; omega
        by_cases c2 : vw l (pr l xa) = vw l (pr l (pr l xa)) + 1
        · have e2 : ((vw l (pr l xa) : Int) == (vw l (pr l (pr l xa)) : Int) + 1) = true := by rw [beq_iff_eq]; omega
          by_cases c3 : vw l (pr l (pr l xa)) = vw l (pr l (pr l (pr l xa))) + 1
          · have e3 : ((vw l (pr l (pr l xa)) : Int) == (vw l (pr l (pr l (pr l xa))) : Int) + 1) = true := by rw [beq_iff_eq]; omega
            have K : Hid (cb = true) := by rw [Hid, HC.out]; simp [c1, c2, c3]
            clear c1 c2 c3 HC HW HA1 HB1 HE
            go_wp2_with fail
            refine (HH _ hT3).mono ?_
            rintro e w4 ⟨rfl, k4⟩
            have hT4 := hT3.keep k4
            clear hT3 k4
            go_wp2_with fail
            refine (V1 _ hT4).mono ?_
            rintro e w' ⟨rfl, rfl⟩
            go_wp2_with fail
            refine (V2 _ hT4).mono ?_
            rintro e w' ⟨rfl, rfl⟩
            go_wp2_with fail
            refine (V2 _ hT4).mono ?_
            rintro e w' ⟨rfl, rfl⟩
            go_wp2_with fail
            refine (V3 _ hT4).mono ?_
            rintro e w' ⟨rfl, rfl⟩
            go_wp2_with fail
            go_meet
            case rel => exact ⟨by rw [K.out], hT4⟩
          · have e3 : ((vw l (pr l (pr l xa)) : Int) == (vw l (pr l (pr l (pr l xa))) : Int) + 1) = false := by rw [beq_eq_false_iff_ne]; omega
            have K : Hid (cb = false) := by rw [Hid, HC.out]; simp [c3]
            clear c1 c2 c3 HC HW HA1 HB1 HE
            go_wp2_with fail
            refine (HH _ hT3).mono ?_
            rintro e w4 ⟨rfl, k4⟩
            have hT4 := hT3.keep k4
            clear hT3 k4
            go_wp2_with fail
            refine (V1 _ hT4).mono ?_
            rintro e w' ⟨rfl, rfl⟩
            go_wp2_with fail
            refine (V2 _ hT4).mono ?_
            rintro e w' ⟨rfl, rfl⟩
            go_wp2_with fail
            refine (V2 _ hT4).mono ?_
            rintro e w' ⟨rfl, rfl⟩
            go_wp2_with fail
            refine (V3 _ hT4).mono ?_
            rintro e w' ⟨rfl, rfl⟩
            go_wp2_with fail
            go_meet
            case rel => exact ⟨by rw [K.out], hT4⟩
        · have e2 : ((vw l (pr l xa) : Int) == (vw l (pr l (pr l xa)) : Int) + 1) = false := by rw [beq_eq_false_iff_ne]; omega
          have K : Hid (cb = false) := by rw [Hid, HC.out]; simp [c2]
          clear c1 c2 HC HW HA1 HB1 HE
          go_wp2_with fail
          refine (HH _ hT3).mono ?_
          rintro e w4 ⟨rfl, k4⟩
          have hT4 := hT3.keep k4
          clear hT3 k4
          go_wp2_with fail
          refine (V1 _ hT4).mono ?_
          rintro e w' ⟨rfl, rfl⟩
          go_wp2_with fail
          refine (V2 _ hT4).mono ?_
          rintro e w' ⟨rfl, rfl⟩
          go_wp2_with fail
          go_meet
          case rel => exact ⟨by rw [K.out], hT4⟩
      · have e1 : decide ((3 : Int) ≤ (ht l xa : Int)) = false := by simp; omega
        have K : Hid (cb = false) := by rw [Hid, HC.out]; simp [c1]
        clear c1 HC HW HA1 HB1 HE
        go_wp2_with fail
        refine (HH _ hT3).mono ?_
        rintro e w4 ⟨rfl, k4⟩
        have hT4 := hT3.keep k4
        clear hT3 k4
        go_wp2_with fail
        go_meet
        case rel => exact ⟨by rw [K.out], hT4⟩
    case rest =>
      obtain ⟨rfl, hT9⟩ := hcut
      clear hT3 HH V1 V2 V3 gq gr HC hha bu1 bu2 bu3
      go_upto_if 96 with (fail)
      go_cut [14] (fun s wx => s = .int .i64 (comN l xa) ∧ TrN W wx B l)
      case first =>
        rcases cb with _ | _
        · have K : Hid ((-1 : Int) = comN l xa) := HW
          go_wp2_with fail
          go_meet
          case rel => exact ⟨by rw [← K.out], hT9⟩
        · have K : Hid ((pr l (pr l (pr l xa)) : Int) = comN l xa) := HW
          go_wp2_with fail
          go_meet
          case rel => exact ⟨by rw [← K.out], hT9⟩
      case rest =>
        obtain ⟨rfl, hT20⟩ := hcut
        clear hT9 HW cb
        generalize hca : comN l xa = ca at *
        generalize hcb : comN l xb = cb at *
        have HCA := Lib.hid hca
        have HCB := Lib.hid hcb
        clear hca hcb
        go_wp2_with fail
        refine (CA _ hT20).mono ?_
        rintro e w21 ⟨rfl, k21⟩
        have hT21 := hT20.keep k21
        clear hT20 k21
        go_wp2_with fail
        generalize hx : extB l xa xb = x at *
        have HX := Lib.hid hx
        clear hx
        rcases x with _ | _
        · go_wp2_with fail
          refine (EAB _ hT21).mono ?_
          rintro e w22 ⟨rfl, k22⟩
          have hT22 := hT21.keep k22
          clear hT21 k22
          go_wp2_with fail
          refine (CM1 _ hT22).mono ?_
          rintro e w23 ⟨rfl, k23⟩
          have hT23 := hT22.keep k23
          clear hT22 k23
          go_wp2_with fail
          refine (lenT hT23).mono ?_
          rintro e w' ⟨rfl, rfl⟩
          go_wp2_with fail
          refine (CMN _ hT23).mono ?_
          rintro e w24 ⟨rfl, k24⟩
          have hT24 := hT23.keep k24
          clear hT23 k24
          go_wp2_with fail
          go_ret
          exact ⟨rfl, hT24.new⟩
        · go_wp2_with fail
          refine (EAB _ hT21).mono ?_
          rintro e w22 ⟨rfl, k22⟩
          have hT22 := hT21.keep k22
          clear hT21 k22
          rcases HA1.out with ha | ⟨ra, ha, hra⟩
          · subst ha
            go_wp2_with fail
            refine (CA _ hT22).mono ?_
            rintro e w23 ⟨rfl, k23⟩
            have hT23 := hT22.keep k23
            clear hT22 k23
            go_wp2_with fail
            refine (CM1 _ hT23).mono ?_
            rintro e w24 ⟨rfl, k24⟩
            have hT24 := hT23.keep k24
            clear hT23 k24
            go_wp2_with fail
            refine (lenT hT24).mono ?_
            rintro e w' ⟨rfl, rfl⟩
            go_wp2_with fail
            refine (CMN _ hT24).mono ?_
            rintro e w25 ⟨rfl, k25⟩
            have hT25 := hT24.keep k25
            clear hT24 k25
            go_wp2_with fail
            go_ret
            exact ⟨rfl, hT25.new⟩
          · subst ha
            clear hra
            go_wp2_with fail
            refine (CA _ hT22).mono ?_
            rintro e w23 ⟨rfl, k23⟩
            have hT23 := hT22.keep k23
            clear hT22 k23
            rcases HB1.out with hb | ⟨rb, hb, hrb⟩
            · subst hb
              go_wp2_with fail
              refine (CB _ hT23).mono ?_
              rintro e w24 ⟨rfl, k24⟩
              have hT24 := hT23.keep k24
              clear hT23 k24
              go_wp2_with fail
              refine (CM1 _ hT24).mono ?_
              rintro e w25 ⟨rfl, k25⟩
              have hT25 := hT24.keep k25
              clear hT24 k25
              go_wp2_with fail
              refine (lenT hT25).mono ?_
              rintro e w' ⟨rfl, rfl⟩
              go_wp2_with fail
              refine (CMN _ hT25).mono ?_
              rintro e w26 ⟨rfl, k26⟩
              have hT26 := hT25.keep k26
              clear hT25 k26
              go_wp2_with fail
              go_ret
              exact ⟨rfl, hT26.new⟩
            · subst hb
              clear hrb
              obtain ⟨lra, lrb, hxx⟩ := HE.out ra rb (by simp) (by simp) (by simp)
              have ERR := fun w (h : TrN W w B l) => extT h (ra : Nat) (rb : Nat)
              rw [extI_nat lra lrb, hxx] at ERR
              clear hxx
              go_wp2_with fail
              refine (CB _ hT23).mono ?_
              rintro e w24 ⟨rfl, k24⟩
              have hT24 := hT23.keep k24
              clear hT23 k24
              go_wp2_with fail
              refine (CA _ hT24).mono ?_
              rintro e w25 ⟨rfl, k25⟩
              have hT25 := hT24.keep k25
              clear hT24 k25
              go_wp2_with fail
              refine (CB _ hT25).mono ?_
              rintro e w26 ⟨rfl, k26⟩
              have hT26 := hT25.keep k26
              clear hT25 k26
              go_wp2_with fail
              refine (ERR _ hT26).mono ?_
              rintro e w27 ⟨rfl, k27⟩
              have hT27 := hT26.keep k27
              clear hT26 k27
              go_wp2_with fail
              go_ret
              exact ⟨rfl, hT27.new⟩
end Go.Proofs.Ytefbdikoichaeaa
