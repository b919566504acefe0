/-
  voussoirlaw13.VoteLine: the walk.
-/
import Derived.Test.YtefbdikoichaeaaVt9
import Derived.Deep.CutBlock
import Derived.Deep.DeepCutAuto
import Derived.Deep.RegionHeld3
import Derived.Deep.DrawnRows
namespace Go.Proofs.Ytefbdikoichaeaa
open Go.RowKit
attribute [local go_sem ↓] Go.wp_at_zero Go.wp_at_succ

set_option maxHeartbeats 8000000 in
set_option maxRecDepth 100000 in
theorem line_walk (A : Option Addr) (len cap : Nat) (la : List Ac) (a b c : Int) (W : World) (hla : la.length = len) (h63 : len ≤ 9223372036854775807) (hA : ActsAt W A la) (ia : I64 a) (ib : I64 b) (ic : I64 c) :
    Calls Try.prog 3 #[.slice A len cap, .int .i64 a, .int .i64 b, .int .i64 c] W fun e w' => e = .returned (.bool true) ∧ New W w' := by
  go_enter Try.func3, Try.ntmps3
  go_wp2_with fail
  refine (awake_any W W (New.refl W)).mono ?_
  rintro e w1 ⟨rfl, n1⟩
  go_wp2_with fail
  refine (newT W w1 n1).mono ?_
  rintro e w2 ⟨rfl, hT⟩
  have hB : W.heap.size ≤ w1.heap.size + 1 := hT.2.2.1
  generalize w1.heap.size + 1 = B at *
  clear n1
  go_upto_block 0 with (fail)
  go_cut [] (fun wx => ∃ l, TrN W wx B l ∧ l.length ≤ 61 ∧ ∀ j, vw l j ≤ 120)
  case first =>
    go_wp2_with fail
    go_loopw [11] (fun i wr => ∃ (k : Nat) (l : List Bl), k ≤ len ∧ k ≤ 60 ∧ i = .int .i64 k ∧ TrN W wr B l ∧ l.length = k + 1 ∧ ∀ j, vw l j ≤ 2 * k)
      (fun i _ => 60 - (intOf i).toNat)
    case atStart => exact ⟨0, _, by omega, by omega, rfl, hT, rfl, fun j => by rcases j with _ | j <;> exact Nat.le_refl _⟩
    case round =>
      clear hT
      obtain ⟨k, l, hk, hk6, rfl, hT, hl, hv⟩ := hrel
      by_cases hlt : k < len
      · by_cases hlt6 : k < 60
        · obtain ⟨bA, oA, rfl, hbA, ⟨i0, i1, i2, i3⟩, c0, c1, c2, c3⟩ := hA k la[k] (List.getElem?_eq_getElem (by omega))
          generalize la[k] = act at *
          have hk0 : (0 : Int) ≤ (k : Int) := Int.natCast_nonneg _
          have hk1 : (k : Int) < (len : Int) := by omega
          have hp := pk_lt act.on l.length (by omega)
          have hq := pk_lt act.view 2 (by omega)
          have X1 := fun w => pick_any act.on l.length w i1 (by omega) (by omega)
          have X2 : ∀ w, Calls Try.prog 13 #[.int .i64 act.view, .int .i64 2] w fun e w' => e = .returned (.int .i64 (pk act.view 2)) ∧ w = w' := fun w => pick_any act.view 2 w i2 (by omega) (by omega)
          have hvp := hv (pk act.on l.length)
          have V1 := fun w (h : TrN W w B l) => viewT h (pk act.on l.length : Nat)
          rw [viewI_nat hp] at V1
          have hv2 : ∀ v, v ≤ 2 * (k + 1) → ∀ j, vw (addB l (pk act.on l.length) v) j ≤ 2 * (k + 1) := by
            intro v hv0 j
            by_cases e : j < l.length
            · rw [vw_addB _ _ _ e]; have := hv j; omega
            · by_cases e2 : j = l.length
              · subst e2; rw [vw_addB_new]; exact hv0
              · rw [vw_beyond _ (by rw [addB_length]; omega)]; omega
          have A1 := fun w (h : TrN W w B l) => addT h (pk act.on l.length) (vw l (pk act.on l.length) + 1 + pk act.view 2) hp (by omega) (by unfold U64; omega) (by omega)
          have HF : Hid (∀ j, vw (addB l (pk act.on l.length) (vw l (pk act.on l.length) + 1 + pk act.view 2)) j ≤ 2 * (k + 1)) := hv2 _ (by omega)
          have HL : Hid ((addB l (pk act.on l.length) (vw l (pk act.on l.length) + 1 + pk act.view 2)).length = k + 1 + 1) := by rw [Hid, addB_length, hl]
          have g1 : IntKind.u64.wrap ((vw l (pk act.on l.length) : Int) + 1) = (vw l (pk act.on l.length) : Int) + 1 := IntWalk.u64_in _ ⟨by omega, by omega⟩
          have g3 : IntKind.u64.wrap (pk act.view 2 : Int) = (pk act.view 2 : Int) := IntWalk.u64_in _ ⟨by omega, by omega⟩
          have g2 : IntKind.u64.wrap ((vw l (pk act.on l.length) : Int) + 1 + (pk act.view 2 : Int)) = ((vw l (pk act.on l.length) + 1 + pk act.view 2 : Nat) : Int) := by
            rw [IntWalk.u64_in _ ⟨by omega, by omega⟩]; omega
          have HLL := Lib.hid hl
          clear hv hv2 hvp hl
          generalize pk act.view 2 = y at *
          generalize hpp : pk act.on l.length = p at *
          clear hpp
          generalize vw l p = vp at *
          go_wp2_with fail
          refine wp_region_held_drew (S := (fun w' => TrN W w' B l)) (by kernel_rfl) ?_ (fun hHeld => ?_)
          · exact hT.drew
          refine wpAnyH_take (i := 0) (oi := ⟨some 32, _, _, _, _, _⟩) (v := ?_) rfl (by kernel_rfl) (by kernel_rfl) (by kernel_rfl) (fun _ _ _ h => h) (Or.inl ⟨by rfl, ?_⟩) (by assumption) ?_
          rotate_left
          · (intro wq hSw; (try dsimp only at hSw); go_simp; try with_reducible rfl)
          try simp only [Act.put, List.setIfInBounds_toArray, List.set_cons_zero, List.set_cons_succ]
          refine wpAnyH_take (i := 1) (oi := ⟨some 33, _, _, _, _, _⟩) (v := ?_) rfl (by kernel_rfl) (by kernel_rfl) (by kernel_rfl) (fun _ _ _ h => h) (Or.inl ⟨by rfl, ?_⟩) (by assumption) ?_
          rotate_left
          · (intro wq hSw; (try dsimp only at hSw); go_simp; try with_reducible rfl)
          try simp only [Act.put, List.setIfInBounds_toArray, List.set_cons_zero, List.set_cons_succ]
          refine wpAnyH_take (i := 2) (oi := ⟨some 34, _, _, _, _, _⟩) (v := ?_) rfl (by kernel_rfl) (by kernel_rfl) (by kernel_rfl) (fun _ _ _ h => h) (Or.inl ⟨by rfl, ?_⟩) (by assumption) ?_
          rotate_left
          · (intro wq hSw; (try dsimp only at hSw); go_simp; try with_reducible rfl)
          try simp only [Act.put, List.setIfInBounds_toArray, List.set_cons_zero, List.set_cons_succ]
          refine wpAnyH_take (i := 3) (oi := ⟨some 35, _, _, _, _, _⟩) (v := ?_) rfl (by kernel_rfl) (by kernel_rfl) (by kernel_rfl) (fun _ _ _ h => h) (Or.inl ⟨by rfl, ?_⟩) (by assumption) ?_
          rotate_left
          · (intro wq hSw; (try dsimp only at hSw); go_simp; try with_reducible rfl)
          try simp only [Act.put, List.setIfInBounds_toArray, List.set_cons_zero, List.set_cons_succ]
          refine wpAnyH_take (i := 4) (oi := ⟨some 36, _, _, _, _, _⟩) (v := ?_) rfl (by kernel_rfl) (by kernel_rfl) (by kernel_rfl) (fun _ _ _ h => h) (Or.inl ⟨by rfl, ?_⟩) (by assumption) ?_
          rotate_left
          · (intro wq hSw; (try dsimp only at hSw); have d := (hSw.new.cell (p := ⟨bA, oA + k * 4 + 1, none⟩) hbA (fun h => h)).trans c1; go_simp; try with_reducible rfl)
          try simp only [Act.put, List.setIfInBounds_toArray, List.set_cons_zero, List.set_cons_succ]
          refine wpAnyH_take (i := 5) (oi := ⟨some 37, _, _, _, _, _⟩) (v := ?_) rfl (by kernel_rfl) (by kernel_rfl) (by kernel_rfl) (fun _ _ _ h => h) (Or.inl ⟨by rfl, ?_⟩) (by assumption) ?_
          rotate_left
          · (intro wq hSw; (try dsimp only at hSw); go_simp; try with_reducible rfl)
          try simp only [Act.put, List.setIfInBounds_toArray, List.set_cons_zero, List.set_cons_succ]
          refine wpAnyH_ready (rs := [6]) (by kernel_rfl) (by simp) ?_
          refine AllReadyH.cons (o := ⟨some 38, _, _, _, _, _⟩) rfl (fun K hK => ?_) AllReadyH.nil
          go_simp
          refine (lenT hHeld).mono ?_; rintro e w' ⟨rfl, rfl⟩
          refine hK.out _ _ hHeld (fun hHeld => ?_)
          clear hK K
          try simp only [Act.put, List.setIfInBounds_toArray, List.set_cons_zero, List.set_cons_succ]
          refine wpAnyH_ready (rs := [7]) (by kernel_rfl) (by simp) ?_
          refine AllReadyH.cons (o := ⟨some 39, _, _, _, _, _⟩) rfl (fun K hK => ?_) AllReadyH.nil
          go_simp
          refine (X1 _).mono ?_; rintro e w' ⟨rfl, rfl⟩
          refine hK.out _ _ hHeld (fun hHeld => ?_)
          clear hK K
          try simp only [Act.put, List.setIfInBounds_toArray, List.set_cons_zero, List.set_cons_succ]
          refine wpAnyH_take (i := 8) (oi := ⟨some 12, _, _, _, _, _⟩) (v := ?_) rfl (by kernel_rfl) (by kernel_rfl) (by kernel_rfl) (fun _ _ _ h => h) (Or.inl ⟨by rfl, ?_⟩) (by assumption) ?_
          rotate_left
          · (intro wq hSw; (try dsimp only at hSw); go_simp; try with_reducible rfl)
          try simp only [Act.put, List.setIfInBounds_toArray, List.set_cons_zero, List.set_cons_succ]
          refine wpAnyH_done (by kernel_rfl) ?_ _
          have hTd := hHeld.drew
          clear hT hHeld
          go_wp2_with fail
          refine wp_region_held_drew (S := (fun w' => New W w')) (by kernel_rfl) ?_ (fun hHeld => ?_)
          · exact hTd.new
          refine wpAnyH_take (i := 0) (oi := ⟨some 40, _, _, _, _, _⟩) (v := ?_) rfl (by kernel_rfl) (by kernel_rfl) (by kernel_rfl) (fun _ _ _ h => h) (Or.inl ⟨by rfl, ?_⟩) (by assumption) ?_
          rotate_left
          · (intro wq hSw; (try dsimp only at hSw); go_simp; try with_reducible rfl)
          try simp only [Act.put, List.setIfInBounds_toArray, List.set_cons_zero, List.set_cons_succ]
          refine wpAnyH_take (i := 1) (oi := ⟨some 41, _, _, _, _, _⟩) (v := ?_) rfl (by kernel_rfl) (by kernel_rfl) (by kernel_rfl) (fun _ _ _ h => h) (Or.inl ⟨by rfl, ?_⟩) (by assumption) ?_
          rotate_left
          · (intro wq hSw; (try dsimp only at hSw); go_simp; try with_reducible rfl)
          try simp only [Act.put, List.setIfInBounds_toArray, List.set_cons_zero, List.set_cons_succ]
          refine wpAnyH_take (i := 2) (oi := ⟨some 42, _, _, _, _, _⟩) (v := ?_) rfl (by kernel_rfl) (by kernel_rfl) (by kernel_rfl) (fun _ _ _ h => h) (Or.inl ⟨by rfl, ?_⟩) (by assumption) ?_
          rotate_left
          · (intro wq hSw; (try dsimp only at hSw); go_simp; try with_reducible rfl)
          try simp only [Act.put, List.setIfInBounds_toArray, List.set_cons_zero, List.set_cons_succ]
          refine wpAnyH_take (i := 3) (oi := ⟨some 43, _, _, _, _, _⟩) (v := ?_) rfl (by kernel_rfl) (by kernel_rfl) (by kernel_rfl) (fun _ _ _ h => h) (Or.inl ⟨by rfl, ?_⟩) (by assumption) ?_
          rotate_left
          · (intro wq hSw; (try dsimp only at hSw); go_simp; try with_reducible rfl)
          try simp only [Act.put, List.setIfInBounds_toArray, List.set_cons_zero, List.set_cons_succ]
          refine wpAnyH_take (i := 6) (oi := ⟨some 46, _, _, _, _, _⟩) (v := ?_) rfl (by kernel_rfl) (by kernel_rfl) (by kernel_rfl) (fun _ _ _ h => h) (Or.inl ⟨by rfl, ?_⟩) (by assumption) ?_
          rotate_left
          · (intro wq hSw; (try dsimp only at hSw); go_simp; try with_reducible rfl)
          try simp only [Act.put, List.setIfInBounds_toArray, List.set_cons_zero, List.set_cons_succ]
          refine wpAnyH_take (i := 7) (oi := ⟨some 47, _, _, _, _, _⟩) (v := ?_) rfl (by kernel_rfl) (by kernel_rfl) (by kernel_rfl) (fun _ _ _ h => h) (Or.inl ⟨by rfl, ?_⟩) (by assumption) ?_
          rotate_left
          · (intro wq hSw; (try dsimp only at hSw); go_simp; try with_reducible rfl)
          try simp only [Act.put, List.setIfInBounds_toArray, List.set_cons_zero, List.set_cons_succ]
          refine wpAnyH_take (i := 8) (oi := ⟨some 48, _, _, _, _, _⟩) (v := ?_) rfl (by kernel_rfl) (by kernel_rfl) (by kernel_rfl) (fun _ _ _ h => h) (Or.inl ⟨by rfl, ?_⟩) (by assumption) ?_
          rotate_left
          · (intro wq hSw; (try dsimp only at hSw); go_simp; try with_reducible rfl)
          try simp only [Act.put, List.setIfInBounds_toArray, List.set_cons_zero, List.set_cons_succ]
          refine wpAnyH_take (i := 9) (oi := ⟨some 49, _, _, _, _, _⟩) (v := ?_) rfl (by kernel_rfl) (by kernel_rfl) (by kernel_rfl) (fun _ _ _ h => h) (Or.inl ⟨by rfl, ?_⟩) (by assumption) ?_
          rotate_left
          · (intro wq hSw; (try dsimp only at hSw); go_simp; try with_reducible rfl)
          try simp only [Act.put, List.setIfInBounds_toArray, List.set_cons_zero, List.set_cons_succ]
          refine wpAnyH_take (i := 10) (oi := ⟨some 50, _, _, _, _, _⟩) (v := ?_) rfl (by kernel_rfl) (by kernel_rfl) (by kernel_rfl) (fun _ _ _ h => h) (Or.inl ⟨by rfl, ?_⟩) (by assumption) ?_
          rotate_left
          · (intro wq hSw; (try dsimp only at hSw); have d := (hSw.cell (p := ⟨bA, oA + k * 4 + 2, none⟩) hbA (fun h => h)).trans c2; go_simp; try with_reducible rfl)
          try simp only [Act.put, List.setIfInBounds_toArray, List.set_cons_zero, List.set_cons_succ]
          refine wpAnyH_ready (rs := [4]) (by kernel_rfl) (by simp) ?_
          refine AllReadyH.cons (o := ⟨some 44, _, _, _, _, _⟩) rfl (fun K hK => ?_) AllReadyH.nil
          go_simp
          refine (V1 _ hTd).mono ?_; rintro e w' ⟨rfl, rfl⟩
          refine hK.out _ _ hHeld (fun hHeld => ?_)
          clear hK K
          try simp only [Act.put, List.setIfInBounds_toArray, List.set_cons_zero, List.set_cons_succ]
          refine wpAnyH_take (i := 5) (oi := ⟨some 45, _, _, _, _, _⟩) (v := ?_) rfl (by kernel_rfl) (by kernel_rfl) (by kernel_rfl) (fun _ _ _ h => h) (Or.inl ⟨by rfl, ?_⟩) (by assumption) ?_
          rotate_left
          · (intro wq hSw; (try dsimp only at hSw); go_simp; try with_reducible rfl)
          try simp only [Act.put, List.setIfInBounds_toArray, List.set_cons_zero, List.set_cons_succ]
          refine wpAnyH_ready (rs := [11]) (by kernel_rfl) (by simp) ?_
          refine AllReadyH.cons (o := ⟨some 51, _, _, _, _, _⟩) rfl (fun K hK => ?_) AllReadyH.nil
          go_simp
          refine (X2 _).mono ?_; rintro e w' ⟨rfl, rfl⟩
          refine hK.out _ _ hHeld (fun hHeld => ?_)
          clear hK K
          try simp only [Act.put, List.setIfInBounds_toArray, List.set_cons_zero, List.set_cons_succ]
          refine wpAnyH_take (i := 12) (oi := ⟨some 52, _, _, _, _, _⟩) (v := ?_) rfl (by kernel_rfl) (by kernel_rfl) (by kernel_rfl) (fun _ _ _ h => h) (Or.inl ⟨by rfl, ?_⟩) (by assumption) ?_
          rotate_left
          · (intro wq hSw; (try dsimp only at hSw); go_simp; try with_reducible rfl)
          try simp only [Act.put, List.setIfInBounds_toArray, List.set_cons_zero, List.set_cons_succ]
          refine wpAnyH_take (i := 13) (oi := ⟨some 53, _, _, _, _, _⟩) (v := ?_) rfl (by kernel_rfl) (by kernel_rfl) (by kernel_rfl) (fun _ _ _ h => h) (Or.inl ⟨by rfl, ?_⟩) (by assumption) ?_
          rotate_left
          · (intro wq hSw; (try dsimp only at hSw); go_simp; try with_reducible rfl)
          try simp only [Act.put, List.setIfInBounds_toArray, List.set_cons_zero, List.set_cons_succ]
          refine wpAnyH_ready (rs := [14]) (by kernel_rfl) (by simp) ?_
          refine AllReadyH.cons (o := ⟨some 54, _, _, _, _, _⟩) rfl (fun K hK => ?_) AllReadyH.nil
          go_simp
          refine (A1 _ hTd).mono ?_; rintro e w5 ⟨rfl, hT5⟩
          refine hK.out _ _ (hT5.new) (fun hHeld => ?_)
          clear hK K
          try simp only [Act.put, List.setIfInBounds_toArray, List.set_cons_zero, List.set_cons_succ]
          refine wpAnyH_done (by kernel_rfl) ?_ _
          go_wp2_with fail
          go_roundw
          case rel => exact ⟨k + 1, _, by omega, by omega, by go_num, hT5, HL.out, HF.out⟩
          case measure => simp [intOf]; omega
        · go_wp2_with fail
          go_meet
          case rel => exact ⟨l, hT, by omega, fun j => Nat.le_trans (hv j) (by omega)⟩
      · go_wp2_with fail
        go_meet
        case rel => exact ⟨l, hT, by omega, fun j => Nat.le_trans (hv j) (by omega)⟩
  case rest =>
    obtain ⟨l, hT, hl, hv⟩ := hcut
    have hw := hT.wf
    have hpos := hw.pos
    have PA := fun w => pick_any a l.length w ia (by omega) (by omega)
    have PB := fun w => pick_any b l.length w ib (by omega) (by omega)
    have PC := fun w => pick_any c l.length w ic (by omega) (by omega)
    have la' := pk_lt a l.length (by omega)
    have lb' := pk_lt b l.length (by omega)
    have lc' := pk_lt c l.length (by omega)
    generalize pk a l.length = xa at *
    generalize pk b l.length = xb at *
    generalize pk c l.length = xc at *
    clear hA hv ia ib ic hB
    go_wp2_with fail
    refine (lenT hT).mono ?_
    rintro e w' ⟨rfl, rfl⟩
    go_wp2_with fail
    refine (PA _).mono ?_
    rintro e w' ⟨rfl, rfl⟩
    go_wp2_with fail
    refine (lenT hT).mono ?_
    rintro e w' ⟨rfl, rfl⟩
    go_wp2_with fail
    refine (PB _).mono ?_
    rintro e w' ⟨rfl, rfl⟩
    go_wp2_with fail
    refine (lenT hT).mono ?_
    rintro e w' ⟨rfl, rfl⟩
    go_wp2_with fail
    refine (PC _).mono ?_
    rintro e w' ⟨rfl, rfl⟩
    clear PA PB PC
    have EAA := fun w (h : TrN W w B l) => extT h (xa : Nat) (xa : Nat)
    rw [extI_nat la' la', hw.ext_self la'] at EAA
    have E0A : ∀ w (_ : TrN W w B l), Calls Try.prog 17 #[.pointer (some ⟨B, 0, none⟩), .int .i64 0, .int .i64 (xa : Nat)] w fun e w' => e = .returned (.bool true) ∧ New w w' := fun w h => by
      have := extT h ((0 : Nat) : Int) (xa : Nat)
      rw [extI_nat hpos la', hw.ext_root la'] at this
      exact this
    have EAB := fun w (h : TrN W w B l) => extT h (xa : Nat) (xb : Nat)
    rw [extI_nat la' lb'] at EAB
    have EBA := fun w (h : TrN W w B l) => extT h (xb : Nat) (xa : Nat)
    rw [extI_nat lb' la'] at EBA
    have EBC := fun w (h : TrN W w B l) => extT h (xb : Nat) (xc : Nat)
    rw [extI_nat lb' lc'] at EBC
    have EAC := fun w (h : TrN W w B l) => extT h (xa : Nat) (xc : Nat)
    rw [extI_nat la' lc'] at EAC
    have F1 : Hid (extB l xa xb = true → extB l xb xa = true → xa = xb) := hw.ext_anti la' lb'
    have F2 : Hid (extB l xa xb = true → extB l xb xc = true → extB l xa xc = true) := hw.ext_trans lb' lc'
    have F3 : Hid (extB l xa xb = true → ht l xa ≤ ht l xb ∧ vw l xa ≤ vw l xb) := hw.ext_low lb'
    generalize extB l xa xb = x at *
    generalize extB l xb xa = y at *
    generalize extB l xb xc = z at *
    generalize extB l xa xc = u at *
    have n0 := hT.new
    go_upto_region 13 with (fail)
    go_cut [113] (fun s wx => s = .bool false ∧ TrN W wx B l)
    case first =>
      go_wp2_with fail
      refine (EAA _ hT).mono ?_
      rintro e w1 ⟨rfl, k1⟩
      have hT1 := hT.keep k1
      clear hT k1
      go_wp2_with fail
      refine (E0A _ hT1).mono ?_
      rintro e w2 ⟨rfl, k2⟩
      have hT2 := hT1.keep k2
      clear hT1 k2
      go_wp2_with fail
      refine (EAB _ hT2).mono ?_
      rintro e w3 ⟨rfl, k3⟩
      have hT3 := hT2.keep k3
      clear hT2 k3
      rcases x with _ | _
      · go_wp2_with fail
        refine (EAB _ hT3).mono ?_
        rintro e w4 ⟨rfl, k4⟩
        have hT4 := hT3.keep k4
        clear hT3 k4
        go_wp2_with fail
        go_meet
        case rel => exact ⟨rfl, hT4⟩
      · rcases y with _ | _
        · go_wp2_with fail
          refine (EBA _ hT3).mono ?_
          rintro e w4 ⟨rfl, k4⟩
          have hT4 := hT3.keep k4
          clear hT3 k4
          go_wp2_with fail
          refine (EAB _ hT4).mono ?_
          rintro e w5 ⟨rfl, k5⟩
          have hT5 := hT4.keep k5
          clear hT4 k5
          rcases z with _ | _
          · go_wp2_with fail
            refine (EBC _ hT5).mono ?_
            rintro e w6 ⟨rfl, k6⟩
            have hT6 := hT5.keep k6
            clear hT5 k6
            go_wp2_with fail
            go_meet
            case rel => exact ⟨rfl, hT6⟩
          · go_wp2_with fail
            refine (EBC _ hT5).mono ?_
            rintro e w6 ⟨rfl, k6⟩
            have hT6 := hT5.keep k6
            clear hT5 k6
            obtain rfl : u = true := F2.out (by simp) (by simp)
            go_wp2_with fail
            refine (EAC _ hT6).mono ?_
            rintro e w7 ⟨rfl, k7⟩
            have hT7 := hT6.keep k7
            clear hT6 k7
            go_wp2_with fail
            go_meet
            case rel => exact ⟨rfl, hT7⟩
        · go_wp2_with fail
          refine (EBA _ hT3).mono ?_
          rintro e w4 ⟨rfl, k4⟩
          have hT4 := hT3.keep k4
          clear hT3 k4
          have hab := F1.out (by simp) (by simp)
          have ebn : ((xa : Int) != (xb : Int)) = false := by simp [hab]
          clear hab
          go_wp2_with fail
          refine (EAB _ hT4).mono ?_
          rintro e w5 ⟨rfl, k5⟩
          have hT5 := hT4.keep k5
          clear hT4 k5
          rcases z with _ | _
          · go_wp2_with fail
            refine (EBC _ hT5).mono ?_
            rintro e w6 ⟨rfl, k6⟩
            have hT6 := hT5.keep k6
            clear hT5 k6
            go_wp2_with fail
            go_meet
            case rel => exact ⟨rfl, hT6⟩
          · go_wp2_with fail
            refine (EBC _ hT5).mono ?_
            rintro e w6 ⟨rfl, k6⟩
            have hT6 := hT5.keep k6
            clear hT5 k6
            obtain rfl : u = true := F2.out (by simp) (by simp)
            go_wp2_with fail
            refine (EAC _ hT6).mono ?_
            rintro e w7 ⟨rfl, k7⟩
            have hT7 := hT6.keep k7
            clear hT6 k7
            go_wp2_with fail
            go_meet
            case rel => exact ⟨rfl, hT7⟩
    case rest =>
      obtain ⟨rfl, hT'⟩ := hcut
      clear hT n0 EAA E0A EBA EBC EAC F1 F2
      have HA := fun w (h : TrN W w B l) => htT h (xa : Nat)
      rw [htI_nat la'] at HA
      have HB := fun w (h : TrN W w B l) => htT h (xb : Nat)
      rw [htI_nat lb'] at HB
      have VA := fun w (h : TrN W w B l) => viewT h (xa : Nat)
      rw [viewI_nat la'] at VA
      have VB := fun w (h : TrN W w B l) => viewT h (xb : Nat)
      rw [viewI_nat lb'] at VB
      have hpa := hw.pr_lt la'
      have PP := fun w (h : TrN W w B l) => parT h (xa : Nat)
      rw [parI_nat la'] at PP
      have HP := fun w (h : TrN W w B l) => htT h (pr l xa : Nat)
      rw [htI_nat hpa] at HP
      have VP := fun w (h : TrN W w B l) => viewT h (pr l xa : Nat)
      rw [viewI_nat hpa] at VP
      have hha := hw.ht_le xa la'
      have hhb := hw.ht_le xb lb'
      have hhp := hw.ht_le _ hpa
      go_upto_region 15 with (fail)
      go_cut [151] (fun s wx => s = .bool false ∧ TrN W wx B l)
      case first =>
        have S1 : xa ≠ 0 → ht l xa = ht l (pr l xa) + 1 := fun h => (hw.step xa (by omega) la').2.1
        rcases x with _ | _
        · go_wp2_with fail
          refine (EAB _ hT').mono ?_
          rintro e w1 ⟨rfl, k1⟩
          have hT1 := hT'.keep k1
          clear hT' k1
          by_cases h0 : xa = 0
          · have e0 : ((xa : Int) != 0) = false := by simp [h0]
            clear h0
            go_wp2_with fail
            go_meet
            case rel => exact ⟨rfl, hT1⟩
          · have e0 : ((xa : Int) != 0) = true := by rw [bne_iff_ne]; omega
            have hs := S1 h0
            have e1 : ((ht l xa : Int) != (ht l (pr l xa) : Int) + 1) = false := by rw [bne_eq_false_iff_eq]; omega
            clear hs h0 S1
            go_wp2_with fail
            refine (HA _ hT1).mono ?_
            rintro e w2 ⟨rfl, k2⟩
            have hT2 := hT1.keep k2
            clear hT1 k2
            go_wp2_with fail
            refine (PP _ hT2).mono ?_
            rintro e w3 ⟨rfl, k3⟩
            have hT3 := hT2.keep k3
            clear hT2 k3
            go_wp2_with fail
            refine (HP _ hT3).mono ?_
            rintro e w4 ⟨rfl, k4⟩
            have hT4 := hT3.keep k4
            clear hT3 k4
            go_wp2_with fail
            go_meet
            case rel => exact ⟨rfl, hT4⟩
        · have hF := F3.out (by simp)
          have d1 : decide (ht l xb < ht l xa) = false := by simp [hF.1]
          have d2 : decide (vw l xb < vw l xa) = false := by simp [hF.2]
          clear hF
          go_wp2_with fail
          refine (EAB _ hT').mono ?_
          rintro e w1 ⟨rfl, k1⟩
          have hT1 := hT'.keep k1
          clear hT' k1
          go_wp2_with fail
          refine (HA _ hT1).mono ?_
          rintro e w2 ⟨rfl, k2⟩
          have hT2 := hT1.keep k2
          clear hT1 k2
          go_wp2_with fail
          refine (HB _ hT2).mono ?_
          rintro e w3 ⟨rfl, k3⟩
          have hT3 := hT2.keep k3
          clear hT2 k3
          go_wp2_with fail
          refine (VA _ hT3).mono ?_
          rintro e w' ⟨rfl, rfl⟩
          go_wp2_with fail
          refine (VB _ hT3).mono ?_
          rintro e w' ⟨rfl, rfl⟩
          by_cases h0 : xa = 0
          · have e0 : ((xa : Int) != 0) = false := by simp [h0]
            clear h0
            go_wp2_with fail
            go_meet
            case rel => exact ⟨rfl, hT3⟩
          · have e0 : ((xa : Int) != 0) = true := by rw [bne_iff_ne]; omega
            have hs := S1 h0
            have e1 : ((ht l xa : Int) != (ht l (pr l xa) : Int) + 1) = false := by rw [bne_eq_false_iff_eq]; omega
            clear hs h0 S1
            go_wp2_with fail
            refine (HA _ hT3).mono ?_
            rintro e w4 ⟨rfl, k4⟩
            have hT4 := hT3.keep k4
            clear hT3 k4
            go_wp2_with fail
            refine (PP _ hT4).mono ?_
            rintro e w5 ⟨rfl, k5⟩
            have hT5 := hT4.keep k5
            clear hT4 k5
            go_wp2_with fail
            refine (HP _ hT5).mono ?_
            rintro e w6 ⟨rfl, k6⟩
            have hT6 := hT5.keep k6
            clear hT5 k6
            go_wp2_with fail
            go_meet
            case rel => exact ⟨rfl, hT6⟩
      case rest =>
        obtain ⟨rfl, hT9⟩ := hcut
        clear hT' EAB F3 HB VB x
        have CM := fun w (h : TrN W w B l) => comT h (xa : Nat)
        rw [comI_nat la'] at CM
        have hcc := hw.com_cases la'
        generalize hcm : comN l xa = cm at *
        clear hcm
        rcases hcc with hcm | ⟨rr, hcm, hr0, hr, han, hh, hvv, p0, q0, v1, v2⟩
        · subst hcm
          go_wp2_with fail
          refine (CM _ hT9).mono ?_
          rintro e w1 ⟨rfl, k1⟩
          have hT1 := hT9.keep k1
          clear hT9 k1
          go_wp2_with fail
          go_ret
          exact ⟨rfl, hT1.new⟩
        · subst hcm
          clear hr0 p0 q0 v1 v2
          have e1 : ((rr : Int) == -1) = false := by rw [beq_eq_false_iff_ne]; omega
          have ER := fun w (h : TrN W w B l) => extT h (rr : Nat) (xa : Nat)
          rw [extI_nat hr la', (hw.extB_iff la').2 han] at ER
          have HR := fun w (h : TrN W w B l) => htT h (rr : Nat)
          rw [htI_nat hr] at HR
          have VR := fun w (h : TrN W w B l) => viewT h (rr : Nat)
          rw [viewI_nat hr] at VR
          have hhr := hw.ht_le _ hr
          have hur := (hw.u64 rr).lt
          have hup := (hw.u64 (pr l xa)).lt
          have e2 : ((ht l xa : Int) == (ht l rr : Int) + 3) = true := by rw [beq_iff_eq]; omega
          have g2 : IntKind.u64.wrap ((vw l rr : Int) + 2) = (vw l rr : Int) + 2 := IntWalk.u64_in _ ⟨by omega, by omega⟩
          have e3 : ((vw l (pr l xa) : Int) == (vw l rr : Int) + 2) = true := by rw [beq_iff_eq]; omega
          clear hh hvv han hur hup
          go_wp2_with fail
          refine (CM _ hT9).mono ?_
          rintro e w1 ⟨rfl, k1⟩
          have hT1 := hT9.keep k1
          clear hT9 k1
          go_wp2_with fail
          refine (ER _ hT1).mono ?_
          rintro e w2 ⟨rfl, k2⟩
          have hT2 := hT1.keep k2
          clear hT1 k2
          go_wp2_with fail
          refine (HA _ hT2).mono ?_
          rintro e w3 ⟨rfl, k3⟩
          have hT3 := hT2.keep k3
          clear hT2 k3
          go_wp2_with fail
          refine (HR _ hT3).mono ?_
          rintro e w4 ⟨rfl, k4⟩
          have hT4 := hT3.keep k4
          clear hT3 k4
          go_wp2_with fail
          refine (PP _ hT4).mono ?_
          rintro e w5 ⟨rfl, k5⟩
          have hT5 := hT4.keep k5
          clear hT4 k5
          go_wp2_with fail
          refine (VP _ hT5).mono ?_
          rintro e w' ⟨rfl, rfl⟩
          go_wp2_with fail
          refine (VR _ hT5).mono ?_
          rintro e w' ⟨rfl, rfl⟩
          go_wp2_with fail
          go_ret
          exact ⟨rfl, hT5.new⟩
end Go.Proofs.Ytefbdikoichaeaa
