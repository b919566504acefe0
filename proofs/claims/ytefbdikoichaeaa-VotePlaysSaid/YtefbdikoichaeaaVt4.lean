/-
  VOTE: Extends.
-/
import Derived.Test.YtefbdikoichaeaaVt3
namespace Go.Proofs.Ytefbdikoichaeaa
open Go.RowKit
theorem WfT.ext_to {l : List Bl} (hw : WfT l) {i j c : Nat} (hj : j < l.length) (hc : c < l.length) (han : Anc l i j ↔ Anc l i c) (hgt : ¬ ht l i < ht l c) : extB l i j = ((i : Int) == (c : Int)) := by
  rw [Bool.eq_iff_iff, hw.extB_iff hj, han]
  constructor
  · intro k
    have := hw.anc_eq hc k (by omega)
    simp [this]
  · intro k
    have e : i = c := by have := beq_iff_eq.1 k; omega
    rw [e]; exact Anc.refl _ _
set_option maxHeartbeats 1000000 in
theorem ext_any (b g cap : Nat) (l : List Bl) (i j : Nat) (hi : i < l.length) (hj : j < l.length) (w : World) (hw : WfT l) (h : Tr w b g cap l) :
    Calls Try.prog 17 #[.pointer (some ⟨b, 0, none⟩), .int .i64 i, .int .i64 j] w fun e w' => e = .returned (.bool (extB l i j)) ∧ New w w' := by
  have H1 := at_in b g cap l i hi w h
  have H2 := at_in b g cap l j hj w h
  have hli := hw.ht_le i hi
  have hl := hw.len
  have n0 := New.refl w
  go_enter Try.func17, Try.ntmps17
  go_wp2_with fail
  refine H1.mono ?_
  rintro e w' ⟨rfl, rfl⟩
  go_wp2_with fail
  refine H2.mono ?_
  rintro e w' ⟨rfl, rfl⟩
  go_wp2_with fail
  go_loopw [2, 8] (fun bv y wr => ∃ c : Nat, c < l.length ∧ bv = .int .i64 c ∧ y = .pointer (some ⟨g, c * 2, none⟩) ∧ (Anc l i j ↔ Anc l i c) ∧ New w wr)
    (fun bv _ _ => (intOf bv).toNat)
  case atStart => exact ⟨j, hj, rfl, rfl, Iff.rfl, n0⟩
  case round =>
    clear H1 H2 n0
    obtain ⟨c, hc, rfl, rfl, han, nr⟩ := hrel
    have HA := Lib.hid han
    clear han
    have hr := h.keep nr
    have ci := hr.at i hi
    have cc := hr.at c hc
    have hlc := hw.ht_le c hc
    have A1 := fun w => height_any (vw l i) (ht l i) (pr l i) (by omega) w
    have A2 := fun w => height_any (vw l c) (ht l c) (pr l c) (by omega) w
    have hpc := hw.pr_lt hc
    have A3 := fun w => parent_any (vw l c) (ht l c) (pr l c) (by omega) w
    go_wp2_with fail
    go_region_with (go_at_call 37; (first | (with_reducible refine (A2 _).mono ?_) | (with_reducible refine (A1 _).mono ?_)); rintro e w1 ⟨rfl, k1⟩; have T1 : Tr w1 b g cap l := (by first | exact hr.keep k1.undrew | exact Tr.keep (by assumption) k1); have d1 := T1.at i hi; have d2 := T1.at c hc; have n1 : New w w1 := (by first | exact nr.then k1.undrew (fun _ h => h.elim) | exact Keeps.then (by assumption : New w _) k1 (fun _ h => h.elim)))
    all_goals (
      by_cases hgt : ht l i < ht l c
      · have H3 := fun w h => at_in b g cap l (pr l c) hpc w h
        have c0 : c ≠ 0 := by rintro rfl; rw [hw.zero.2.2] at hgt; omega
        have hst := (hw.step c (by omega) hc).1
        have HA2 := Lib.hid (HA.out.trans (anc_pr_iff (a := i) (b := c) (by rintro rfl; omega)))
        clear A1 A2 ci cc HA d1 nr hr c0
        go_wp2_with fail
        refine (A3 _).mono ?_
        rintro e w2 ⟨rfl, k2⟩
        have T2 := T1.keep k2
        have n2 := n1.then k2 (fun _ h => h.elim)
        clear T1 n1 k1 k2 d2
        go_wp2_with fail
        refine (H3 _ T2).mono ?_
        rintro e w' ⟨rfl, rfl⟩
        go_wp2_with fail
        go_roundw
        case rel => exact ⟨pr l c, hpc, rfl, rfl, HA2.out, n2⟩
        case measure => simp [intOf]; omega
      · have E := Lib.hid (hw.ext_to hj hc HA.out hgt)
        clear A1 A2 A3 ci cc d1 d2
        go_wp2_with fail
        go_ret
        exact ⟨by rw [E.out]; rfl, n1⟩)

theorem ext_int (b g cap : Nat) (l : List Bl) (i j : Int) (w : World) (hw : WfT l) (h : Tr w b g cap l) :
    Calls Try.prog 17 #[.pointer (some ⟨b, 0, none⟩), .int .i64 i, .int .i64 j] w fun e w' => e = .returned (.bool (extI l i j)) ∧ New w w' := by
  rcases hi : inT l i with _ | _
  · rw [extI_out1 hi]
    have H1 := at_out b g cap l i hi w h
    rcases hj : inT l j with _ | _
    · have H2 := at_out b g cap l j hj w h
      clear hi hj
      go_enter Try.func17, Try.ntmps17
      go_wp2_with fail
      refine H1.mono ?_
      rintro e w' ⟨rfl, rfl⟩
      go_wp2_with fail
      refine H2.mono ?_
      rintro e w' ⟨rfl, rfl⟩
      go_wp2_with fail
      go_ret
      exact ⟨rfl, New.refl _⟩
    · obtain ⟨m, rfl, hm⟩ := inT_iff hj
      have H2 := at_in b g cap l m hm w h
      clear hi hj
      go_enter Try.func17, Try.ntmps17
      go_wp2_with fail
      refine H1.mono ?_
      rintro e w' ⟨rfl, rfl⟩
      go_wp2_with fail
      refine H2.mono ?_
      rintro e w' ⟨rfl, rfl⟩
      go_wp2_with fail
      go_ret
      exact ⟨rfl, New.refl _⟩
  · obtain ⟨n, rfl, hn⟩ := inT_iff hi
    rcases hj : inT l j with _ | _
    · rw [extI_out2 hj]
      have H1 := at_in b g cap l n hn w h
      have H2 := at_out b g cap l j hj w h
      clear hi hj
      go_enter Try.func17, Try.ntmps17
      go_wp2_with fail
      refine H1.mono ?_
      rintro e w' ⟨rfl, rfl⟩
      go_wp2_with fail
      refine H2.mono ?_
      rintro e w' ⟨rfl, rfl⟩
      go_wp2_with fail
      go_ret
      exact ⟨rfl, New.refl _⟩
    · obtain ⟨m, rfl, hm⟩ := inT_iff hj
      rw [extI_nat hn hm]
      exact ext_any b g cap l n m hn hm w hw h
end Go.Proofs.Ytefbdikoichaeaa
