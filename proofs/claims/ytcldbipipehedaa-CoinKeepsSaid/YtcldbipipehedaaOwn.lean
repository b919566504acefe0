/-
  voussoirlaw19.Own.
-/
import Derived.Test.YtcldbipipehedaaPkN
namespace Go.Proofs.Ytcldbipipehedaa
open Go.RowKit
/-- what a money is called at its own bank -/
def owL : Nat → Nat → List UInt8
  | 0, 0 => [103, 111, 108, 100]
  | 0, _ => [116, 105, 110]
  | _, 0 => [115, 97, 108, 116]
  | _, _ => [115, 105, 108, 107]
theorem owL_len (s k : Nat) : (owL s k).length ≤ 30 := by
  unfold owL; split <;> decide
theorem owL_cells (w : World) (T : TypeId) : (w.alloc (.cells #[.string ⟨#[103, 111, 108, 100]⟩, .string ⟨#[116, 105, 110]⟩, .string ⟨#[115, 97, 108, 116]⟩, .string ⟨#[115, 105, 108, 107]⟩] T)).cell? ⟨w.heap.size, 0, none⟩ = some (.string ⟨(owL 0 0).toArray⟩) ∧ (w.alloc (.cells #[.string ⟨#[103, 111, 108, 100]⟩, .string ⟨#[116, 105, 110]⟩, .string ⟨#[115, 97, 108, 116]⟩, .string ⟨#[115, 105, 108, 107]⟩] T)).cell? ⟨w.heap.size, 1, none⟩ = some (.string ⟨(owL 0 1).toArray⟩) ∧ (w.alloc (.cells #[.string ⟨#[103, 111, 108, 100]⟩, .string ⟨#[116, 105, 110]⟩, .string ⟨#[115, 97, 108, 116]⟩, .string ⟨#[115, 105, 108, 107]⟩] T)).cell? ⟨w.heap.size, 2, none⟩ = some (.string ⟨(owL 1 0).toArray⟩) ∧ (w.alloc (.cells #[.string ⟨#[103, 111, 108, 100]⟩, .string ⟨#[116, 105, 110]⟩, .string ⟨#[115, 97, 108, 116]⟩, .string ⟨#[115, 105, 108, 107]⟩] T)).cell? ⟨w.heap.size, 3, none⟩ = some (.string ⟨(owL 1 1).toArray⟩) := by
  have h := heap_alloc_new w (.cells #[.string ⟨#[103, 111, 108, 100]⟩, .string ⟨#[116, 105, 110]⟩, .string ⟨#[115, 97, 108, 116]⟩, .string ⟨#[115, 105, 108, 107]⟩] T)
  refine ⟨?_, ?_, ?_, ?_⟩ <;> (unfold World.cell?; rw [h]; rfl)
set_option maxRecDepth 100000 in
theorem own_any (s : Nat) (hs : s < 2) (c : Int) (hc : I64 c) (w : World) :
    Calls Try.prog 36 #[.int .i64 s, .int .i64 c] w fun e w' => e = .returned (.string ⟨(owL s (pk c 2)).toArray⟩) ∧ New w w' := by
  have P := fun w => pickC_any c 2 w hc (by omega) (by omega)
  have hk := pk_lt c 2 (by omega)
  generalize pk c 2 = k at *
  have hs2 : s = 0 ∨ s = 1 := by omega
  have hk2 : k = 0 ∨ k = 1 := by omega
  have n1 := (New.refl w).alloc (.cells #[.string ⟨#[103, 111, 108, 100]⟩, .string ⟨#[116, 105, 110]⟩, .string ⟨#[115, 97, 108, 116]⟩, .string ⟨#[115, 105, 108, 107]⟩] 9)
  have d1 := owL_cells w 9
  rcases hs2 with rfl | rfl <;> rcases hk2 with rfl | rfl
  all_goals
    go_enter Try.func36, Try.ntmps36
    go_wp2_with fail
    refine (P _).mono ?_
    rintro e w1 ⟨rfl, rfl⟩
    revert n1 d1
    generalize World.alloc w _ = w2
    generalize w.heap.size = q
    intro n1 d1
    go_wp2_with fail
    go_ret
    exact ⟨rfl, n1⟩
end Go.Proofs.Ytcldbipipehedaa
