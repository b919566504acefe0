/-
  VOTE: voussoirref13.Tree's Extends.
-/
import Derived.Test.YtefbdikoichaeaaVr1
namespace Go.Proofs.Ytefbdikoichaeaa
open Go.RowKit
theorem WfT.ext_at {l : List Bl} (hw : WfT l) {i j c : Nat} (hj : j < l.length) (hc : c < l.length) (han : Anc l i j ↔ Anc l i c) (hgt : ¬ i < c) : extB l i j = ((i : Int) == (c : Int)) := by
  rw [Bool.eq_iff_iff, hw.extB_iff hj, han]
  constructor
  · intro k
    have := hw.anc_le hc k
    simp; omega
  · intro k
    have e : i = c := by have := beq_iff_eq.1 k; omega
    rw [e]; exact Anc.refl _ _
set_option maxHeartbeats 1000000 in
theorem extD_in (b g cap : Nat) (l : List Bl) (i j : Nat) (hi : i < l.length) (hj : j < l.length) (w : World) (hw : WfT l) (h : Td w b g cap l) :
    Calls Try.prog 30 #[.pointer (some ⟨b, 0, none⟩), .int .i64 i, .int .i64 j] w fun e w' => e = .returned (.bool (extB l i j)) ∧ w = w' := by
  have H1 := fun w h => hasD b g cap l (i : Nat) w h
  have H2 := fun w h => hasD b g cap l (j : Nat) w h
  rw [inT_nat hi] at H1
  rw [inT_nat hj] at H2
  go_enter Try.func30, Try.ntmps30
  go_wp2_with fail
  refine (H1 _ h).mono ?_
  rintro e w' ⟨rfl, rfl⟩
  go_wp2_with fail
  refine (H2 _ h).mono ?_
  rintro e w' ⟨rfl, rfl⟩
  go_wp2_with fail
  go_loopw [2] (fun bv wr => ∃ c : Nat, c < l.length ∧ bv = .int .i64 c ∧ (Anc l i j ↔ Anc l i c) ∧ wr = w)
    (fun bv _ => (intOf bv).toNat)
  case atStart => exact ⟨j, hj, rfl, Iff.rfl, rfl⟩
  case round =>
    clear H1 H2
    obtain ⟨c, hc, rfl, han, rfl⟩ := hrel
    have HA := Lib.hid han
    clear han
    have hcl := h.cell
    have cc := h.at c hc
    have hc0 : (0 : Int) ≤ (c : Int) := Int.natCast_nonneg _
    have hc1 : (c : Int) < (l.length : Int) := by omega
    by_cases hgt : i < c
    · have hst := (hw.step c (by omega) hc).1
      have HA2 := Lib.hid (HA.out.trans (anc_pr_iff (a := i) (b := c) (by omega)))
      have hpc := hw.pr_lt hc
      have e1 : decide ((i : Int) < (c : Int)) = true := by simp; omega
      clear HA
      go_wp2_with fail
      go_roundw
      case rel => exact ⟨pr l c, hpc, rfl, HA2.out, by first | rfl | trivial⟩
      case measure => simp [intOf]; omega
    · have E := Lib.hid (hw.ext_at hj hc HA.out hgt)
      have e1 : decide ((i : Int) < (c : Int)) = false := by simp; omega
      clear cc HA
      go_wp2_with fail
      go_ret
      exact ⟨by rw [E.out]; rfl, rfl⟩
theorem extD (b g cap : Nat) (l : List Bl) (i j : Int) (w : World) (hw : WfT l) (h : Td w b g cap l) :
    Calls Try.prog 30 #[.pointer (some ⟨b, 0, none⟩), .int .i64 i, .int .i64 j] w fun e w' => e = .returned (.bool (extI l i j)) ∧ w = w' := by
  rcases hi : inT l i with _ | _
  · rw [extI_out1 hi]
    have H1 := hasD b g cap l i w h
    rw [hi] at H1
    clear hi
    go_enter Try.func30, Try.ntmps30
    go_wp2_with fail
    refine H1.mono ?_
    rintro e w' ⟨rfl, rfl⟩
    go_wp2_with fail
    go_loopw [2] (fun bv wr => wr = w) (fun _ _ => 0)
    case atStart => rfl
    case round =>
      obtain rfl := hrel
      go_wp2_with fail
      go_ret
      exact ⟨rfl, rfl⟩
  · obtain ⟨n, rfl, hn⟩ := inT_iff hi
    rcases hj : inT l j with _ | _
    · rw [extI_out2 hj]
      have H1 := hasD b g cap l (n : Nat) w h
      have H2 := hasD b g cap l j w h
      rw [hi] at H1
      rw [hj] at H2
      clear hi hj
      go_enter Try.func30, Try.ntmps30
      go_wp2_with fail
      refine H1.mono ?_
      rintro e w' ⟨rfl, rfl⟩
      go_wp2_with fail
      refine H2.mono ?_
      rintro e w' ⟨rfl, rfl⟩
      go_wp2_with fail
      go_loopw [2] (fun bv wr => wr = w) (fun _ _ => 0)
      case atStart => rfl
      case round =>
        obtain rfl := hrel
        go_wp2_with fail
        go_ret
        exact ⟨rfl, rfl⟩
    · obtain ⟨m, rfl, hm⟩ := inT_iff hj
      rw [extI_nat hn hm]
      exact extD_in b g cap l n m hn hm w hw h
end Go.Proofs.Ytefbdikoichaeaa
