/-
  PLAIN: the moneys' names are unlike. No walk here.
-/
import Derived.Test.YtcldbipipehedaaKpT
namespace Go.Proofs.Ytcldbipipehedaa
theorem owL_four (s k : Nat) : 1 ≤ (owL s k).length ∧ (owL s k).length ≤ 4 := by unfold owL; split <;> decide
theorem vchr_long (s k : Nat) : 12 ≤ (vchr s k).length := by
  have h := traceL_length (2 - s)
  have h2 := dec_pos (2 - s)
  have h3 := (owL_four s k).1
  unfold vchr vouL
  rw [List.length_append]; omega
theorem ow_vchr (s k s' k' : Nat) : owL s k ≠ vchr s' k' := by
  intro e
  have h1 := owL_four s k
  have h2 := vchr_long s' k'
  rw [e] at h1; omega
theorem ow_inj {s k s' k' : Nat} (hs : s < 2) (hk : k < 2) (hs' : s' < 2) (hk' : k' < 2) (h : owL s k = owL s' k') : s = s' ∧ k = k' := by
  have a1 : s = 0 ∨ s = 1 := by omega
  have a2 : k = 0 ∨ k = 1 := by omega
  have a3 : s' = 0 ∨ s' = 1 := by omega
  have a4 : k' = 0 ∨ k' = 1 := by omega
  rcases a1 with rfl | rfl <;> rcases a2 with rfl | rfl <;> rcases a3 with rfl | rfl <;> rcases a4 with rfl | rfl <;> first | exact ⟨rfl, rfl⟩ | (exact absurd h (by decide))
end Go.Proofs.Ytcldbipipehedaa
