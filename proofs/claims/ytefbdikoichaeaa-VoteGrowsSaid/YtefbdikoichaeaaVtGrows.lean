/-
  voussoirlaw13.VoteGrows: the walk.
-/
import Derived.Test.YtefbdikoichaeaaVt9
import Derived.Deep.CutBlock
import Derived.Deep.DeepCutAuto
import Derived.Deep.RegionHeld3
import Derived.Deep.DrawnRows
namespace Go.Proofs.Ytefbdikoichaeaa
open Go.RowKit
attribute [local go_sem ↓] Go.wp_at_zero Go.wp_at_succ

set_option maxHeartbeats 8000000 in
set_option maxRecDepth 100000 in
theorem grows_walk (A : Option Addr) (len cap : Nat) (la : List Ac) (pa : Int) (vi : Nat) (ot : Int) (W : World) (hla : la.length = len) (h63 : len ≤ 9223372036854775807) (hA : ActsAt W A la) (ia : I64 pa) (ib : U64 vi) (ic : I64 ot) :
    Calls Try.prog 4 #[.slice A len cap, .int .i64 pa, .int .u64 vi, .int .i64 ot] W fun e w' => e = .returned (.bool true) ∧ New W w' := by
  go_enter Try.func4, Try.ntmps4
  go_wp2_with fail
  refine (awake_any W W (New.refl W)).mono ?_
  rintro e w1 ⟨rfl, n1⟩
  go_wp2_with fail
  refine (newT W w1 n1).mono ?_
  rintro e w2 ⟨rfl, hT⟩
  have hB : W.heap.size ≤ w1.heap.size + 1 := hT.2.2.1
  generalize w1.heap.size + 1 = B at *
  clear n1
  go_upto_block 0 with (fail)
  go_cut [] (fun wx => ∃ l, TrN W wx B l ∧ l.length ≤ 61 ∧ ∀ j, vw l j ≤ 120)
  case first =>
    go_wp2_with fail
    go_loopw [11] (fun i wr => ∃ (k : Nat) (l : List Bl), k ≤ len ∧ k ≤ 60 ∧ i = .int .i64 k ∧ TrN W wr B l ∧ l.length = k + 1 ∧ ∀ j, vw l j ≤ 2 * k)
      (fun i _ => 60 - (intOf i).toNat)
    case atStart => exact ⟨0, _, by omega, by omega, rfl, hT, rfl, fun j => by rcases j with _ | j <;> exact Nat.le_refl _⟩
    case round =>
      clear hT
      obtain ⟨k, l, hk, hk6, rfl, hT, hl, hv⟩ := hrel
      by_cases hlt : k < len
      · by_cases hlt6 : k < 60
        · obtain ⟨bA, oA, rfl, hbA, ⟨i0, i1, i2, i3⟩, c0, c1, c2, c3⟩ := hA k la[k] (List.getElem?_eq_getElem (by omega))
          generalize la[k] = act at *
          have hk0 : (0 : Int) ≤ (k : Int) := Int.natCast_nonneg _
          have hk1 : (k : Int) < (len : Int) := by omega
          have hp := pk_lt act.on l.length (by omega)
          have hq := pk_lt act.view 2 (by omega)
          have X1 := fun w => pick_any act.on l.length w i1 (by omega) (by omega)
          have X2 : ∀ w, Calls Try.prog 13 #[.int .i64 act.view, .int .i64 2] w fun e w' => e = .returned (.int .i64 (pk act.view 2)) ∧ w = w' := fun w => pick_any act.view 2 w i2 (by omega) (by omega)
          have hvp := hv (pk act.on l.length)
          have V1 := fun w (h : TrN W w B l) => viewT h (pk act.on l.length : Nat)
          rw [viewI_nat hp] at V1
          have hv2 : ∀ v, v ≤ 2 * (k + 1) → ∀ j, vw (addB l (pk act.on l.length) v) j ≤ 2 * (k + 1) := by
            intro v hv0 j
            by_cases e : j < l.length
            · rw [vw_addB _ _ _ e]; have := hv j; omega
            · by_cases e2 : j = l.length
              · subst e2; rw [vw_addB_new]; exact hv0
              · rw [vw_beyond _ (by rw [addB_length]; omega)]; omega
          have A1 := fun w (h : TrN W w B l) => addT h (pk act.on l.length) (vw l (pk act.on l.length) + 1 + pk act.view 2) hp (by omega) (by unfold U64; omega) (by omega)
          have HF : Hid (∀ j, vw (addB l (pk act.on l.length) (vw l (pk act.on l.length) + 1 + pk act.view 2)) j ≤ 2 * (k + 1)) := hv2 _ (by omega)
          have HL : Hid ((addB l (pk act.on l.length) (vw l (pk act.on l.length) + 1 + pk act.view 2)).length = k + 1 + 1) := by rw [Hid, addB_length, hl]
          have g1 : IntKind.u64.wrap ((vw l (pk act.on l.length) : Int) + 1) = (vw l (pk act.on l.length) : Int) + 1 := IntWalk.u64_in _ ⟨by omega, by omega⟩
          have g3 : IntKind.u64.wrap (pk act.view 2 : Int) = (pk act.view 2 : Int) := IntWalk.u64_in _ ⟨by omega, by omega⟩
          have g2 : IntKind.u64.wrap ((vw l (pk act.on l.length) : Int) + 1 + (pk act.view 2 : Int)) = ((vw l (pk act.on l.length) + 1 + pk act.view 2 : Nat) : Int) := by
            rw [IntWalk.u64_in _ ⟨by omega, by omega⟩]; omega
          have HLL := Lib.hid hl
          clear hv hv2 hvp hl
          generalize pk act.view 2 = y at *
          generalize hpp : pk act.on l.length = p at *
          clear hpp
          generalize vw l p = vp at *
          go_wp2_with fail
          refine wp_region_held_drew (S := (fun w' => TrN W w' B l)) (by kernel_rfl) ?_ (fun hHeld => ?_)
          · exact hT.drew
          refine wpAnyH_take (i := 0) (oi := ⟨some 36, _, _, _, _, _⟩) (v := ?_) rfl (by kernel_rfl) (by kernel_rfl) (by kernel_rfl) (fun _ _ _ h => h) (Or.inl ⟨by rfl, ?_⟩) (by assumption) ?_
          rotate_left
          · (intro wq hSw; (try dsimp only at hSw); go_simp; try with_reducible rfl)
          try simp only [Act.put, List.setIfInBounds_toArray, List.set_cons_zero, List.set_cons_succ]
          refine wpAnyH_take (i := 1) (oi := ⟨some 37, _, _, _, _, _⟩) (v := ?_) rfl (by kernel_rfl) (by kernel_rfl) (by kernel_rfl) (fun _ _ _ h => h) (Or.inl ⟨by rfl, ?_⟩) (by assumption) ?_
          rotate_left
          · (intro wq hSw; (try dsimp only at hSw); go_simp; try with_reducible rfl)
          try simp only [Act.put, List.setIfInBounds_toArray, List.set_cons_zero, List.set_cons_succ]
          refine wpAnyH_take (i := 2) (oi := ⟨some 38, _, _, _, _, _⟩) (v := ?_) rfl (by kernel_rfl) (by kernel_rfl) (by kernel_rfl) (fun _ _ _ h => h) (Or.inl ⟨by rfl, ?_⟩) (by assumption) ?_
          rotate_left
          · (intro wq hSw; (try dsimp only at hSw); go_simp; try with_reducible rfl)
          try simp only [Act.put, List.setIfInBounds_toArray, List.set_cons_zero, List.set_cons_succ]
          refine wpAnyH_take (i := 3) (oi := ⟨some 39, _, _, _, _, _⟩) (v := ?_) rfl (by kernel_rfl) (by kernel_rfl) (by kernel_rfl) (fun _ _ _ h => h) (Or.inl ⟨by rfl, ?_⟩) (by assumption) ?_
          rotate_left
          · (intro wq hSw; (try dsimp only at hSw); go_simp; try with_reducible rfl)
          try simp only [Act.put, List.setIfInBounds_toArray, List.set_cons_zero, List.set_cons_succ]
          refine wpAnyH_take (i := 4) (oi := ⟨some 40, _, _, _, _, _⟩) (v := ?_) rfl (by kernel_rfl) (by kernel_rfl) (by kernel_rfl) (fun _ _ _ h => h) (Or.inl ⟨by rfl, ?_⟩) (by assumption) ?_
          rotate_left
          · (intro wq hSw; (try dsimp only at hSw); have d := (hSw.new.cell (p := ⟨bA, oA + k * 4 + 1, none⟩) hbA (fun h => h)).trans c1; go_simp; try with_reducible rfl)
          try simp only [Act.put, List.setIfInBounds_toArray, List.set_cons_zero, List.set_cons_succ]
          refine wpAnyH_take (i := 5) (oi := ⟨some 41, _, _, _, _, _⟩) (v := ?_) rfl (by kernel_rfl) (by kernel_rfl) (by kernel_rfl) (fun _ _ _ h => h) (Or.inl ⟨by rfl, ?_⟩) (by assumption) ?_
          rotate_left
          · (intro wq hSw; (try dsimp only at hSw); go_simp; try with_reducible rfl)
          try simp only [Act.put, List.setIfInBounds_toArray, List.set_cons_zero, List.set_cons_succ]
          refine wpAnyH_ready (rs := [6]) (by kernel_rfl) (by simp) ?_
          refine AllReadyH.cons (o := ⟨some 42, _, _, _, _, _⟩) rfl (fun K hK => ?_) AllReadyH.nil
          go_simp
          refine (lenT hHeld).mono ?_; rintro e w' ⟨rfl, rfl⟩
          refine hK.out _ _ hHeld (fun hHeld => ?_)
          clear hK K
          try simp only [Act.put, List.setIfInBounds_toArray, List.set_cons_zero, List.set_cons_succ]
          refine wpAnyH_ready (rs := [7]) (by kernel_rfl) (by simp) ?_
          refine AllReadyH.cons (o := ⟨some 43, _, _, _, _, _⟩) rfl (fun K hK => ?_) AllReadyH.nil
          go_simp
          refine (X1 _).mono ?_; rintro e w' ⟨rfl, rfl⟩
          refine hK.out _ _ hHeld (fun hHeld => ?_)
          clear hK K
          try simp only [Act.put, List.setIfInBounds_toArray, List.set_cons_zero, List.set_cons_succ]
          refine wpAnyH_take (i := 8) (oi := ⟨some 12, _, _, _, _, _⟩) (v := ?_) rfl (by kernel_rfl) (by kernel_rfl) (by kernel_rfl) (fun _ _ _ h => h) (Or.inl ⟨by rfl, ?_⟩) (by assumption) ?_
          rotate_left
          · (intro wq hSw; (try dsimp only at hSw); go_simp; try with_reducible rfl)
          try simp only [Act.put, List.setIfInBounds_toArray, List.set_cons_zero, List.set_cons_succ]
          refine wpAnyH_done (by kernel_rfl) ?_ _
          have hTd := hHeld.drew
          clear hT hHeld
          go_wp2_with fail
          refine wp_region_held_drew (S := (fun w' => New W w')) (by kernel_rfl) ?_ (fun hHeld => ?_)
          · exact hTd.new
          refine wpAnyH_take (i := 0) (oi := ⟨some 44, _, _, _, _, _⟩) (v := ?_) rfl (by kernel_rfl) (by kernel_rfl) (by kernel_rfl) (fun _ _ _ h => h) (Or.inl ⟨by rfl, ?_⟩) (by assumption) ?_
          rotate_left
          · (intro wq hSw; (try dsimp only at hSw); go_simp; try with_reducible rfl)
          try simp only [Act.put, List.setIfInBounds_toArray, List.set_cons_zero, List.set_cons_succ]
          refine wpAnyH_take (i := 1) (oi := ⟨some 45, _, _, _, _, _⟩) (v := ?_) rfl (by kernel_rfl) (by kernel_rfl) (by kernel_rfl) (fun _ _ _ h => h) (Or.inl ⟨by rfl, ?_⟩) (by assumption) ?_
          rotate_left
          · (intro wq hSw; (try dsimp only at hSw); go_simp; try with_reducible rfl)
          try simp only [Act.put, List.setIfInBounds_toArray, List.set_cons_zero, List.set_cons_succ]
          refine wpAnyH_take (i := 2) (oi := ⟨some 46, _, _, _, _, _⟩) (v := ?_) rfl (by kernel_rfl) (by kernel_rfl) (by kernel_rfl) (fun _ _ _ h => h) (Or.inl ⟨by rfl, ?_⟩) (by assumption) ?_
          rotate_left
          · (intro wq hSw; (try dsimp only at hSw); go_simp; try with_reducible rfl)
          try simp only [Act.put, List.setIfInBounds_toArray, List.set_cons_zero, List.set_cons_succ]
          refine wpAnyH_take (i := 3) (oi := ⟨some 47, _, _, _, _, _⟩) (v := ?_) rfl (by kernel_rfl) (by kernel_rfl) (by kernel_rfl) (fun _ _ _ h => h) (Or.inl ⟨by rfl, ?_⟩) (by assumption) ?_
          rotate_left
          · (intro wq hSw; (try dsimp only at hSw); go_simp; try with_reducible rfl)
          try simp only [Act.put, List.setIfInBounds_toArray, List.set_cons_zero, List.set_cons_succ]
          refine wpAnyH_take (i := 6) (oi := ⟨some 50, _, _, _, _, _⟩) (v := ?_) rfl (by kernel_rfl) (by kernel_rfl) (by kernel_rfl) (fun _ _ _ h => h) (Or.inl ⟨by rfl, ?_⟩) (by assumption) ?_
          rotate_left
          · (intro wq hSw; (try dsimp only at hSw); go_simp; try with_reducible rfl)
          try simp only [Act.put, List.setIfInBounds_toArray, List.set_cons_zero, List.set_cons_succ]
          refine wpAnyH_take (i := 7) (oi := ⟨some 51, _, _, _, _, _⟩) (v := ?_) rfl (by kernel_rfl) (by kernel_rfl) (by kernel_rfl) (fun _ _ _ h => h) (Or.inl ⟨by rfl, ?_⟩) (by assumption) ?_
          rotate_left
          · (intro wq hSw; (try dsimp only at hSw); go_simp; try with_reducible rfl)
          try simp only [Act.put, List.setIfInBounds_toArray, List.set_cons_zero, List.set_cons_succ]
          refine wpAnyH_take (i := 8) (oi := ⟨some 52, _, _, _, _, _⟩) (v := ?_) rfl (by kernel_rfl) (by kernel_rfl) (by kernel_rfl) (fun _ _ _ h => h) (Or.inl ⟨by rfl, ?_⟩) (by assumption) ?_
          rotate_left
          · (intro wq hSw; (try dsimp only at hSw); go_simp; try with_reducible rfl)
          try simp only [Act.put, List.setIfInBounds_toArray, List.set_cons_zero, List.set_cons_succ]
          refine wpAnyH_take (i := 9) (oi := ⟨some 53, _, _, _, _, _⟩) (v := ?_) rfl (by kernel_rfl) (by kernel_rfl) (by kernel_rfl) (fun _ _ _ h => h) (Or.inl ⟨by rfl, ?_⟩) (by assumption) ?_
          rotate_left
          · (intro wq hSw; (try dsimp only at hSw); go_simp; try with_reducible rfl)
          try simp only [Act.put, List.setIfInBounds_toArray, List.set_cons_zero, List.set_cons_succ]
          refine wpAnyH_take (i := 10) (oi := ⟨some 54, _, _, _, _, _⟩) (v := ?_) rfl (by kernel_rfl) (by kernel_rfl) (by kernel_rfl) (fun _ _ _ h => h) (Or.inl ⟨by rfl, ?_⟩) (by assumption) ?_
          rotate_left
          · (intro wq hSw; (try dsimp only at hSw); have d := (hSw.cell (p := ⟨bA, oA + k * 4 + 2, none⟩) hbA (fun h => h)).trans c2; go_simp; try with_reducible rfl)
          try simp only [Act.put, List.setIfInBounds_toArray, List.set_cons_zero, List.set_cons_succ]
          refine wpAnyH_ready (rs := [4]) (by kernel_rfl) (by simp) ?_
          refine AllReadyH.cons (o := ⟨some 48, _, _, _, _, _⟩) rfl (fun K hK => ?_) AllReadyH.nil
          go_simp
          refine (V1 _ hTd).mono ?_; rintro e w' ⟨rfl, rfl⟩
          refine hK.out _ _ hHeld (fun hHeld => ?_)
          clear hK K
          try simp only [Act.put, List.setIfInBounds_toArray, List.set_cons_zero, List.set_cons_succ]
          refine wpAnyH_take (i := 5) (oi := ⟨some 49, _, _, _, _, _⟩) (v := ?_) rfl (by kernel_rfl) (by kernel_rfl) (by kernel_rfl) (fun _ _ _ h => h) (Or.inl ⟨by rfl, ?_⟩) (by assumption) ?_
          rotate_left
          · (intro wq hSw; (try dsimp only at hSw); go_simp; try with_reducible rfl)
          try simp only [Act.put, List.setIfInBounds_toArray, List.set_cons_zero, List.set_cons_succ]
          refine wpAnyH_ready (rs := [11]) (by kernel_rfl) (by simp) ?_
          refine AllReadyH.cons (o := ⟨some 55, _, _, _, _, _⟩) rfl (fun K hK => ?_) AllReadyH.nil
          go_simp
          refine (X2 _).mono ?_; rintro e w' ⟨rfl, rfl⟩
          refine hK.out _ _ hHeld (fun hHeld => ?_)
          clear hK K
          try simp only [Act.put, List.setIfInBounds_toArray, List.set_cons_zero, List.set_cons_succ]
          refine wpAnyH_take (i := 12) (oi := ⟨some 56, _, _, _, _, _⟩) (v := ?_) rfl (by kernel_rfl) (by kernel_rfl) (by kernel_rfl) (fun _ _ _ h => h) (Or.inl ⟨by rfl, ?_⟩) (by assumption) ?_
          rotate_left
          · (intro wq hSw; (try dsimp only at hSw); go_simp; try with_reducible rfl)
          try simp only [Act.put, List.setIfInBounds_toArray, List.set_cons_zero, List.set_cons_succ]
          refine wpAnyH_take (i := 13) (oi := ⟨some 57, _, _, _, _, _⟩) (v := ?_) rfl (by kernel_rfl) (by kernel_rfl) (by kernel_rfl) (fun _ _ _ h => h) (Or.inl ⟨by rfl, ?_⟩) (by assumption) ?_
          rotate_left
          · (intro wq hSw; (try dsimp only at hSw); go_simp; try with_reducible rfl)
          try simp only [Act.put, List.setIfInBounds_toArray, List.set_cons_zero, List.set_cons_succ]
          refine wpAnyH_ready (rs := [14]) (by kernel_rfl) (by simp) ?_
          refine AllReadyH.cons (o := ⟨some 58, _, _, _, _, _⟩) rfl (fun K hK => ?_) AllReadyH.nil
          go_simp
          refine (A1 _ hTd).mono ?_; rintro e w5 ⟨rfl, hT5⟩
          refine hK.out _ _ (hT5.new) (fun hHeld => ?_)
          clear hK K
          try simp only [Act.put, List.setIfInBounds_toArray, List.set_cons_zero, List.set_cons_succ]
          refine wpAnyH_done (by kernel_rfl) ?_ _
          go_wp2_with fail
          go_roundw
          case rel => exact ⟨k + 1, _, by omega, by omega, by go_num, hT5, HL.out, HF.out⟩
          case measure => simp [intOf]; omega
        · go_wp2_with fail
          go_meet
          case rel => exact ⟨l, hT, by omega, fun j => Nat.le_trans (hv j) (by omega)⟩
      · go_wp2_with fail
        go_meet
        case rel => exact ⟨l, hT, by omega, fun j => Nat.le_trans (hv j) (by omega)⟩
  case rest =>
    obtain ⟨l, hT, hl, hv⟩ := hcut
    have hw := hT.wf
    have hpos := hw.pos
    have PO : ∀ w, Calls Try.prog 13 #[.int .i64 ot, .int .i64 2] w fun e w' => e = .returned (.int .i64 (pk ot 2)) ∧ w = w' := fun w => pick_any ot 2 w ic (by omega) (by omega)
    have PP := fun w => pick_any pa l.length w ia (by omega) (by omega)
    have PQ := fun w => pick_any ot l.length w ic (by omega) (by omega)
    have lp := pk_lt pa l.length (by omega)
    have lo := pk_lt ot l.length (by omega)
    generalize pk ot 2 = x2 at *
    generalize pk pa l.length = xp at *
    generalize pk ot l.length = xo at *
    clear hA hv ic hB
    go_wp2_with fail
    refine (PO _).mono ?_
    rintro e w' ⟨rfl, rfl⟩
    clear PO
    go_upto_if 61 with (fail)
    go_cut [1] (fun s wx => ∃ q : Int, s = .int .i64 q ∧ I64 q ∧ TrN W wx B l)
    case first =>
      by_cases h0 : x2 = 0
      · have e0 : ((x2 : Int) == 0) = true := by simp [h0]
        clear h0
        go_wp2_with fail
        refine (lenT hT).mono ?_
        rintro e w' ⟨rfl, rfl⟩
        go_wp2_with fail
        refine (PP _).mono ?_
        rintro e w' ⟨rfl, rfl⟩
        go_wp2_with fail
        go_meet
        case rel => exact ⟨xp, rfl, ⟨by omega, by omega⟩, hT⟩
      · have e0 : ((x2 : Int) == 0) = false := by simp [h0]
        clear h0
        go_wp2_with fail
        go_meet
        case rel => exact ⟨pa, rfl, ia, hT⟩
    case rest =>
      obtain ⟨q, rfl, ⟨hq1, hq2⟩, hT'⟩ := hcut
      clear hT PP lp xp ia x2
      have hl2 : (l.length : Int) ≤ 61 := by omega
      go_wp2_with fail
      refine (lenT hT').mono ?_
      rintro e w' ⟨rfl, rfl⟩
      by_cases hin : q < 0 ∨ (l.length : Int) ≤ q
      · have ho : inT l q = false := by unfold inT; rcases hin with h | h <;> simp <;> omega
        have AA := fun w (h : TrN W w B l) => addAnyT h q vi ib
        rw [show addR l q vi = .tuple #[.int .i64 (-1), .int .i64 130] by unfold addR addOk; rw [ho]; rfl, show addL l q vi = l by unfold addL addOk; rw [ho]; rfl] at AA
        clear ho PQ
        rcases hin with hin | hin
        · have e1 : decide (0 ≤ q) = false := by simp; omega
          go_wp2_with fail
          refine (AA _ hT').mono ?_
          rintro e w5 ⟨rfl, hT5⟩
          go_wp2_with fail
          refine (lenT hT5).mono ?_
          rintro e w' ⟨rfl, rfl⟩
          go_wp2_with fail
          go_ret
          exact ⟨rfl, hT5.new⟩
        · have e1 : decide (0 ≤ q) = true := by simp; omega
          have e2 : decide (q < (l.length : Int)) = false := by simp; omega
          go_wp2_with fail
          refine (AA _ hT').mono ?_
          rintro e w5 ⟨rfl, hT5⟩
          go_wp2_with fail
          refine (lenT hT5).mono ?_
          rintro e w' ⟨rfl, rfl⟩
          go_wp2_with fail
          go_ret
          exact ⟨rfl, hT5.new⟩
      · obtain ⟨p, rfl⟩ : ∃ p : Nat, q = p := ⟨q.toNat, by omega⟩
        have hp : p < l.length := by omega
        clear hin hq1 hq2
        have e1 : decide ((0 : Int) ≤ (p : Int)) = true := by simp
        have e2 : decide (p < l.length) = true := by simp [hp]
        have VP := fun w (h : TrN W w B l) => viewT h (p : Nat)
        rw [viewI_nat hp] at VP
        by_cases hvv : vw l p < vi
        · have e3 : decide (vw l p < vi) = true := by simp [hvv]
          have AA := fun w (h : TrN W w B l) => addT h p vi hp hvv ib (by omega)
          have hw2 := hw.add hp hvv ib (show l.length < 256 by omega)
          have hn2 : l.length < (addB l p vi).length := by rw [addB_length]; omega
          have hp2 : p < (addB l p vi).length := by omega
          have ho2 : xo < (addB l p vi).length := by omega
          have LL := fun w (h : TrN W w B (addB l p vi)) => lenT h
          rw [addB_length] at LL
          have GP := fun w (h : TrN W w B (addB l p vi)) => parT h (l.length : Nat)
          rw [parI_nat hn2, pr_addB_new] at GP
          have GV := fun w (h : TrN W w B (addB l p vi)) => viewT h (l.length : Nat)
          rw [viewI_nat hn2, vw_addB_new] at GV
          have GH := fun w (h : TrN W w B (addB l p vi)) => htT h (l.length : Nat)
          rw [htI_nat hn2, ht_addB_new] at GH
          have GHP := fun w (h : TrN W w B (addB l p vi)) => htT h (p : Nat)
          rw [htI_nat hp2, ht_addB _ _ _ hp] at GHP
          have hEQ : extB (addB l p vi) xo l.length = extB (addB l p vi) xo p := by
            rw [Bool.eq_iff_iff, hw2.extB_iff hn2, hw2.extB_iff hp2, hw.anc_new hp (by omega), hw.anc_addB p vi hp]
          have GE1 := fun w (h : TrN W w B (addB l p vi)) => extT h (xo : Nat) (l.length : Nat)
          rw [extI_nat ho2 hn2, hEQ] at GE1
          have GE2 := fun w (h : TrN W w B (addB l p vi)) => extT h (xo : Nat) (p : Nat)
          rw [extI_nat ho2 hp2] at GE2
          have hNO : extB (addB l p vi) l.length xo = false := by
            rw [Bool.eq_false_iff]
            intro h
            have := hw2.anc_le ho2 ((hw2.extB_iff ho2).1 h)
            omega
          have GE3 := fun w (h : TrN W w B (addB l p vi)) => extT h (l.length : Nat) (xo : Nat)
          rw [extI_nat hn2 ho2, hNO] at GE3
          have hhp := hw.ht_le p hp
          have g1 : (((ht l p + 1 : Nat) : Int) == (ht l p : Int) + 1) = true := by rw [beq_iff_eq]; omega
          have g2 : (((l.length + 1 : Nat) : Int) == (l.length : Int) + 1) = true := by rw [beq_iff_eq]; omega
          clear hEQ hNO hvv hw2
          generalize addB l p vi = l2 at *
          generalize extB l2 xo p = x at *
          generalize ((ht l p + 1 : Nat) : Int) = hh at *
          generalize ((l.length + 1 : Nat) : Int) = nn at *
          go_wp2_with fail
          refine (VP _ hT').mono ?_
          rintro e w' ⟨rfl, rfl⟩
          go_wp2_with fail
          refine (AA _ hT').mono ?_
          rintro e w5 ⟨rfl, hT5⟩
          clear AA VP hT'
          go_wp2_with fail
          refine (PQ _).mono ?_
          rintro e w' ⟨rfl, rfl⟩
          go_wp2_with fail
          refine (LL _ hT5).mono ?_
          rintro e w' ⟨rfl, rfl⟩
          go_wp2_with fail
          refine (GP _ hT5).mono ?_
          rintro e w6 ⟨rfl, k6⟩
          have hT6 := hT5.keep k6
          clear hT5 k6
          go_wp2_with fail
          refine (GV _ hT6).mono ?_
          rintro e w' ⟨rfl, rfl⟩
          go_wp2_with fail
          refine (GH _ hT6).mono ?_
          rintro e w7 ⟨rfl, k7⟩
          have hT7 := hT6.keep k7
          clear hT6 k7
          go_wp2_with fail
          refine (GHP _ hT7).mono ?_
          rintro e w8 ⟨rfl, k8⟩
          have hT8 := hT7.keep k8
          clear hT7 k8
          go_wp2_with fail
          refine (GE1 _ hT8).mono ?_
          rintro e w9 ⟨rfl, k9⟩
          have hT9 := hT8.keep k9
          clear hT8 k9
          go_wp2_with fail
          refine (GE2 _ hT9).mono ?_
          rintro e w10 ⟨rfl, k10⟩
          have hT10 := hT9.keep k10
          clear hT9 k10
          go_wp2_with fail
          refine (GE3 _ hT10).mono ?_
          rintro e w11 ⟨rfl, k11⟩
          have hT11 := hT10.keep k11
          clear hT10 k11
          go_wp2_with fail
          go_ret
          exact ⟨by simp, hT11.new⟩
        · have e3 : decide (vw l p < vi) = false := by simp; omega
          have AA := fun w (h : TrN W w B l) => addAnyT h (p : Nat) vi ib
          have ho : addOk l (p : Nat) vi = false := by unfold addOk; rw [viewI_nat hp, e3]; simp
          rw [show addR l (p : Nat) vi = .tuple #[.int .i64 (-1), .int .i64 130] by unfold addR; rw [ho]; rfl, show addL l (p : Nat) vi = l by unfold addL; rw [ho]; rfl] at AA
          clear ho PQ hvv
          go_wp2_with fail
          refine (VP _ hT').mono ?_
          rintro e w' ⟨rfl, rfl⟩
          go_wp2_with fail
          refine (AA _ hT').mono ?_
          rintro e w5 ⟨rfl, hT5⟩
          go_wp2_with fail
          refine (lenT hT5).mono ?_
          rintro e w' ⟨rfl, rfl⟩
          go_wp2_with fail
          go_ret
          exact ⟨rfl, hT5.new⟩
end Go.Proofs.Ytefbdikoichaeaa
