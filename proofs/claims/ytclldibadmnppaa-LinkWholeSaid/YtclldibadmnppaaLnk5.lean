/-
  WALKS: voussoirref17's Lay, Take, Init, Try, Ack, Confirm; voussoirlaw17's pick.
-/
import Derived.Test.YtclldibadmnppaaLnk4
namespace Go.Proofs.Ytclldibadmnppaa
open Go.RowKit

set_option maxHeartbeats 2000000 in
theorem lay2_no (st : Int) (cl pe pc : Nat) (ok : okL st pe = false) (w : World) :
    Calls Try.prog 47 #[.agg #[.int .i64 st, .int .u64 cl, .int .u64 pe, .int .u64 pc]] w fun e w' => e = .returned (.tuple #[.string ⟨#[]⟩, .int .i64 171]) ∧ New w w' := by
  by_cases h1 : st < 1
  · have e1 : decide (st < 1) = true := by simp [h1]
    clear ok h1
    go_enter Try.func47, Try.ntmps47
    go_wp2
    go_returns
    exact ⟨rfl, New.of_below (by go_grown)⟩
  · by_cases h3 : 3 < st
    · have e1 : decide (st < 1) = false := by simp; omega
      have e2 : decide (3 < st) = true := by simp; omega
      clear ok h1 h3
      go_enter Try.func47, Try.ntmps47
      go_wp2
      go_returns
      exact ⟨rfl, New.of_below (by go_grown)⟩
    · have hst : st = 1 ∧ pe ≠ 0 := by
        unfold okL at ok
        split at ok
        · exact ⟨by assumption, by simpa using ok⟩
        · simp at ok; omega
      obtain ⟨rfl, hpe⟩ := hst
      have e1 : ((pe : Int) != 0) = true := by simp [bne]; omega
      clear ok h1 h3 hpe
      go_enter Try.func47, Try.ntmps47
      go_wp2
      go_returns
      exact ⟨rfl, New.of_below (by go_grown)⟩

theorem init2_any (cl pc : Int) (w : World) :
    Calls Try.prog 53 #[.int .u64 cl, .int .u64 pc] w fun e w' => e = .returned (.agg #[.int .i64 1, .int .u64 cl, .int .u64 0, .int .u64 pc]) ∧ New w w' := by
  go_enter Try.func53, Try.ntmps53
  go_wp2_with fail
  go_returns
  exact ⟨rfl, New.of_below (by go_grown)⟩

theorem try2_any (cl pc pe : Int) (w : World) :
    Calls Try.prog 50 #[.int .u64 cl, .int .u64 pc, .int .u64 pe] w fun e w' => e = .returned (.tuple #[.agg #[.int .i64 2, .int .u64 cl, .int .u64 pe, .int .u64 pc], .agg #[.int .i64 1, .int .u64 pc, .int .u64 0, .int .u64 cl]]) ∧ New w w' := by
  go_enter Try.func50, Try.ntmps50
  go_wp2
  go_returns
  exact ⟨rfl, New.of_below (by go_grown)⟩

set_option maxHeartbeats 2000000 in
theorem ack2_no (own st cl pe pc peer : Int) (hst : (st == 1) = false) (w : World) :
    Calls Try.prog 51 #[.int .u64 own, .agg #[.int .i64 st, .int .u64 cl, .int .u64 pe, .int .u64 pc], .int .u64 peer] w fun e w' => e = .returned (.tuple #[.agg #[.int .i64 0, .int .u64 0, .int .u64 0, .int .u64 0], .agg #[.int .i64 0, .int .u64 0, .int .u64 0, .int .u64 0], .int .i64 170]) ∧ New w w' := by
  have hst2 : (st != 1) = true := by simp [bne, hst]
  go_enter Try.func51, Try.ntmps51
  go_wp2
  go_returns
  exact ⟨rfl, New.of_below (by go_grown)⟩

set_option maxHeartbeats 2000000 in
theorem confirm2_no (own st cl pe pc : Int) (hst : (st == 2) = false) (w : World) :
    Calls Try.prog 52 #[.int .u64 own, .agg #[.int .i64 st, .int .u64 cl, .int .u64 pe, .int .u64 pc]] w fun e w' => e = .returned (.tuple #[.agg #[.int .i64 0, .int .u64 0, .int .u64 0, .int .u64 0], .agg #[.int .i64 0, .int .u64 0, .int .u64 0, .int .u64 0], .int .i64 170]) ∧ New w w' := by
  have hst2 : (st != 2) = true := by simp [bne, hst]
  go_enter Try.func52, Try.ntmps52
  go_wp2
  go_returns
  exact ⟨rfl, New.of_below (by go_grown)⟩

end Go.Proofs.Ytclldibadmnppaa
