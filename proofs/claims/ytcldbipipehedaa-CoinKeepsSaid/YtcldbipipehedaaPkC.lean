/-
  voussoirlaw19.pick and voussoirlaw10.pick.
-/
import Derived.Test.YtcldbipipehedaaCOpen
namespace Go.Proofs.Ytcldbipipehedaa
open Go.RowKit
/-- what pick picks -/
def pk (c : Int) (n : Nat) : Nat := ((if c < 0 then -(c + 1) else c) % (n : Int)).toNat
theorem pk_lt (c : Int) (n : Nat) (h : 0 < n) : pk c n < n := by
  unfold pk
  have h1 := Int.emod_nonneg (if c < 0 then -(c + 1) else c) (show (n : Int) ≠ 0 by omega)
  have h2 := Int.emod_lt_of_pos (if c < 0 then -(c + 1) else c) (show (0 : Int) < n by omega)
  omega
theorem pickC_any (c : Int) (n : Nat) (w : World) (hc : I64 c) (hn : 0 < n) (hn2 : n ≤ 4611686018427387904) :
    Calls Try.prog 25 #[.int .i64 c, .int .i64 n] w fun e w' => e = .returned (.int .i64 (pk c n)) ∧ w = w' := by
  obtain ⟨hlo, hhi⟩ := hc
  by_cases h : c < 0
  · go_enter Try.func25, Try.ntmps25
    go_wp2
    go_ret
    refine ⟨ret_int ?_, rfl⟩
    rw [← Int.neg_tmod, Int.tmod_eq_emod_of_nonneg (by omega)]
    unfold pk
    rw [if_pos h, Int.toNat_of_nonneg (Int.emod_nonneg _ (by omega))]
  · go_enter Try.func25, Try.ntmps25
    go_wp2
    go_ret
    refine ⟨ret_int ?_, rfl⟩
    unfold pk
    rw [if_neg (by omega), Int.toNat_of_nonneg (Int.emod_nonneg _ (by omega))]
theorem pickB_any (c : Int) (n : Nat) (w : World) (hc : I64 c) (hn : 0 < n) (hn2 : n ≤ 4611686018427387904) :
    Calls Try.prog 51 #[.int .i64 c, .int .i64 n] w fun e w' => e = .returned (.int .i64 (pk c n)) ∧ w = w' := by
  obtain ⟨hlo, hhi⟩ := hc
  by_cases h : c < 0
  · go_enter Try.func51, Try.ntmps51
    go_wp2
    go_ret
    refine ⟨ret_int ?_, rfl⟩
    rw [← Int.neg_tmod, Int.tmod_eq_emod_of_nonneg (by omega)]
    unfold pk
    rw [if_pos h, Int.toNat_of_nonneg (Int.emod_nonneg _ (by omega))]
  · go_enter Try.func51, Try.ntmps51
    go_wp2
    go_ret
    refine ⟨ret_int ?_, rfl⟩
    unfold pk
    rw [if_neg (by omega), Int.toNat_of_nonneg (Int.emod_nonneg _ (by omega))]
end Go.Proofs.Ytcldbipipehedaa
