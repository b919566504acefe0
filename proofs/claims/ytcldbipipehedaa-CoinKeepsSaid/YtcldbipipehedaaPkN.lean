/-
  voussoirlaw19.name and voussoirlaw19.denom.
-/
import Derived.Test.YtcldbipipehedaaPkC
namespace Go.Proofs.Ytcldbipipehedaa
open Go.RowKit
/-- one name of few -/
def nmL : Nat → List UInt8
  | 0 => [97, 110, 110]
  | 1 => [98, 111, 98]
  | 2 => [99, 121]
  | 3 => [101, 115, 99, 114, 111, 119, 47, 49]
  | 4 => [101, 115, 99, 114, 111, 119, 47, 50]
  | _ => []
theorem nmL_len (k : Nat) : (nmL k).length ≤ 30 := by
  unfold nmL; split <;> decide
theorem nmL_cells (w : World) (T : TypeId) : (w.alloc (.cells #[.string ⟨#[97, 110, 110]⟩, .string ⟨#[98, 111, 98]⟩, .string ⟨#[99, 121]⟩, .string ⟨#[101, 115, 99, 114, 111, 119, 47, 49]⟩, .string ⟨#[101, 115, 99, 114, 111, 119, 47, 50]⟩, .string ⟨#[]⟩] T)).cell? ⟨w.heap.size, 0, none⟩ = some (.string ⟨(nmL 0).toArray⟩) ∧ (w.alloc (.cells #[.string ⟨#[97, 110, 110]⟩, .string ⟨#[98, 111, 98]⟩, .string ⟨#[99, 121]⟩, .string ⟨#[101, 115, 99, 114, 111, 119, 47, 49]⟩, .string ⟨#[101, 115, 99, 114, 111, 119, 47, 50]⟩, .string ⟨#[]⟩] T)).cell? ⟨w.heap.size, 1, none⟩ = some (.string ⟨(nmL 1).toArray⟩) ∧ (w.alloc (.cells #[.string ⟨#[97, 110, 110]⟩, .string ⟨#[98, 111, 98]⟩, .string ⟨#[99, 121]⟩, .string ⟨#[101, 115, 99, 114, 111, 119, 47, 49]⟩, .string ⟨#[101, 115, 99, 114, 111, 119, 47, 50]⟩, .string ⟨#[]⟩] T)).cell? ⟨w.heap.size, 2, none⟩ = some (.string ⟨(nmL 2).toArray⟩) ∧ (w.alloc (.cells #[.string ⟨#[97, 110, 110]⟩, .string ⟨#[98, 111, 98]⟩, .string ⟨#[99, 121]⟩, .string ⟨#[101, 115, 99, 114, 111, 119, 47, 49]⟩, .string ⟨#[101, 115, 99, 114, 111, 119, 47, 50]⟩, .string ⟨#[]⟩] T)).cell? ⟨w.heap.size, 3, none⟩ = some (.string ⟨(nmL 3).toArray⟩) ∧ (w.alloc (.cells #[.string ⟨#[97, 110, 110]⟩, .string ⟨#[98, 111, 98]⟩, .string ⟨#[99, 121]⟩, .string ⟨#[101, 115, 99, 114, 111, 119, 47, 49]⟩, .string ⟨#[101, 115, 99, 114, 111, 119, 47, 50]⟩, .string ⟨#[]⟩] T)).cell? ⟨w.heap.size, 4, none⟩ = some (.string ⟨(nmL 4).toArray⟩) ∧ (w.alloc (.cells #[.string ⟨#[97, 110, 110]⟩, .string ⟨#[98, 111, 98]⟩, .string ⟨#[99, 121]⟩, .string ⟨#[101, 115, 99, 114, 111, 119, 47, 49]⟩, .string ⟨#[101, 115, 99, 114, 111, 119, 47, 50]⟩, .string ⟨#[]⟩] T)).cell? ⟨w.heap.size, 5, none⟩ = some (.string ⟨(nmL 5).toArray⟩) := by
  have h := heap_alloc_new w (.cells #[.string ⟨#[97, 110, 110]⟩, .string ⟨#[98, 111, 98]⟩, .string ⟨#[99, 121]⟩, .string ⟨#[101, 115, 99, 114, 111, 119, 47, 49]⟩, .string ⟨#[101, 115, 99, 114, 111, 119, 47, 50]⟩, .string ⟨#[]⟩] T)
  refine ⟨?_, ?_, ?_, ?_, ?_, ?_⟩ <;> (unfold World.cell?; rw [h]; rfl)
set_option maxRecDepth 100000 in
theorem name_any (c : Int) (hc : I64 c) (w : World) :
    Calls Try.prog 24 #[.int .i64 c] w fun e w' => e = .returned (.string ⟨(nmL (pk c 6)).toArray⟩) ∧ New w w' := by
  have P := fun w => pickC_any c 6 w hc (by omega) (by omega)
  have hk := pk_lt c 6 (by omega)
  generalize pk c 6 = k at *
  go_enter Try.func24, Try.ntmps24
  go_wp2_with fail
  refine (P _).mono ?_
  rintro e w1 ⟨rfl, rfl⟩
  have n1 := (New.refl w).alloc (.cells #[.string ⟨#[97, 110, 110]⟩, .string ⟨#[98, 111, 98]⟩, .string ⟨#[99, 121]⟩, .string ⟨#[101, 115, 99, 114, 111, 119, 47, 49]⟩, .string ⟨#[101, 115, 99, 114, 111, 119, 47, 50]⟩, .string ⟨#[]⟩] 9)
  have d1 := nmL_cells w 9
  generalize World.alloc w _ = w2 at *
  generalize w.heap.size = q at *
  have hk2 : k = 0 ∨ k = 1 ∨ k = 2 ∨ k = 3 ∨ k = 4 ∨ k = 5 := by omega
  rcases hk2 with rfl | rfl | rfl | rfl | rfl | rfl
  all_goals
    go_wp2_with fail
    go_ret
    exact ⟨rfl, n1⟩
/-- one denomination of few -/
def dnL : Nat → List UInt8
  | 0 => [103, 111, 108, 100]
  | 1 => [116, 105, 110]
  | 2 => [116, 114, 97, 110, 115, 102, 101, 114, 47, 49, 47, 103, 111, 108, 100]
  | 3 => [116, 114, 97, 110, 115, 102, 101, 114, 47, 50, 47, 103, 111, 108, 100]
  | 4 => [116, 114, 97, 110, 115, 102, 101, 114, 47, 49, 47, 116, 105, 110]
  | 5 => [116, 114, 97, 110, 115, 102, 101, 114, 47, 50, 47, 116, 114, 97, 110, 115, 102, 101, 114, 47, 49, 47, 103, 111, 108, 100]
  | _ => []
theorem dnL_len (k : Nat) : (dnL k).length ≤ 30 := by
  unfold dnL; split <;> decide
theorem dnL_cells (w : World) (T : TypeId) : (w.alloc (.cells #[.string ⟨#[103, 111, 108, 100]⟩, .string ⟨#[116, 105, 110]⟩, .string ⟨#[116, 114, 97, 110, 115, 102, 101, 114, 47, 49, 47, 103, 111, 108, 100]⟩, .string ⟨#[116, 114, 97, 110, 115, 102, 101, 114, 47, 50, 47, 103, 111, 108, 100]⟩, .string ⟨#[116, 114, 97, 110, 115, 102, 101, 114, 47, 49, 47, 116, 105, 110]⟩, .string ⟨#[116, 114, 97, 110, 115, 102, 101, 114, 47, 50, 47, 116, 114, 97, 110, 115, 102, 101, 114, 47, 49, 47, 103, 111, 108, 100]⟩, .string ⟨#[]⟩] T)).cell? ⟨w.heap.size, 0, none⟩ = some (.string ⟨(dnL 0).toArray⟩) ∧ (w.alloc (.cells #[.string ⟨#[103, 111, 108, 100]⟩, .string ⟨#[116, 105, 110]⟩, .string ⟨#[116, 114, 97, 110, 115, 102, 101, 114, 47, 49, 47, 103, 111, 108, 100]⟩, .string ⟨#[116, 114, 97, 110, 115, 102, 101, 114, 47, 50, 47, 103, 111, 108, 100]⟩, .string ⟨#[116, 114, 97, 110, 115, 102, 101, 114, 47, 49, 47, 116, 105, 110]⟩, .string ⟨#[116, 114, 97, 110, 115, 102, 101, 114, 47, 50, 47, 116, 114, 97, 110, 115, 102, 101, 114, 47, 49, 47, 103, 111, 108, 100]⟩, .string ⟨#[]⟩] T)).cell? ⟨w.heap.size, 1, none⟩ = some (.string ⟨(dnL 1).toArray⟩) ∧ (w.alloc (.cells #[.string ⟨#[103, 111, 108, 100]⟩, .string ⟨#[116, 105, 110]⟩, .string ⟨#[116, 114, 97, 110, 115, 102, 101, 114, 47, 49, 47, 103, 111, 108, 100]⟩, .string ⟨#[116, 114, 97, 110, 115, 102, 101, 114, 47, 50, 47, 103, 111, 108, 100]⟩, .string ⟨#[116, 114, 97, 110, 115, 102, 101, 114, 47, 49, 47, 116, 105, 110]⟩, .string ⟨#[116, 114, 97, 110, 115, 102, 101, 114, 47, 50, 47, 116, 114, 97, 110, 115, 102, 101, 114, 47, 49, 47, 103, 111, 108, 100]⟩, .string ⟨#[]⟩] T)).cell? ⟨w.heap.size, 2, none⟩ = some (.string ⟨(dnL 2).toArray⟩) ∧ (w.alloc (.cells #[.string ⟨#[103, 111, 108, 100]⟩, .string ⟨#[116, 105, 110]⟩, .string ⟨#[116, 114, 97, 110, 115, 102, 101, 114, 47, 49, 47, 103, 111, 108, 100]⟩, .string ⟨#[116, 114, 97, 110, 115, 102, 101, 114, 47, 50, 47, 103, 111, 108, 100]⟩, .string ⟨#[116, 114, 97, 110, 115, 102, 101, 114, 47, 49, 47, 116, 105, 110]⟩, .string ⟨#[116, 114, 97, 110, 115, 102, 101, 114, 47, 50, 47, 116, 114, 97, 110, 115, 102, 101, 114, 47, 49, 47, 103, 111, 108, 100]⟩, .string ⟨#[]⟩] T)).cell? ⟨w.heap.size, 3, none⟩ = some (.string ⟨(dnL 3).toArray⟩) ∧ (w.alloc (.cells #[.string ⟨#[103, 111, 108, 100]⟩, .string ⟨#[116, 105, 110]⟩, .string ⟨#[116, 114, 97, 110, 115, 102, 101, 114, 47, 49, 47, 103, 111, 108, 100]⟩, .string ⟨#[116, 114, 97, 110, 115, 102, 101, 114, 47, 50, 47, 103, 111, 108, 100]⟩, .string ⟨#[116, 114, 97, 110, 115, 102, 101, 114, 47, 49, 47, 116, 105, 110]⟩, .string ⟨#[116, 114, 97, 110, 115, 102, 101, 114, 47, 50, 47, 116, 114, 97, 110, 115, 102, 101, 114, 47, 49, 47, 103, 111, 108, 100]⟩, .string ⟨#[]⟩] T)).cell? ⟨w.heap.size, 4, none⟩ = some (.string ⟨(dnL 4).toArray⟩) ∧ (w.alloc (.cells #[.string ⟨#[103, 111, 108, 100]⟩, .string ⟨#[116, 105, 110]⟩, .string ⟨#[116, 114, 97, 110, 115, 102, 101, 114, 47, 49, 47, 103, 111, 108, 100]⟩, .string ⟨#[116, 114, 97, 110, 115, 102, 101, 114, 47, 50, 47, 103, 111, 108, 100]⟩, .string ⟨#[116, 114, 97, 110, 115, 102, 101, 114, 47, 49, 47, 116, 105, 110]⟩, .string ⟨#[116, 114, 97, 110, 115, 102, 101, 114, 47, 50, 47, 116, 114, 97, 110, 115, 102, 101, 114, 47, 49, 47, 103, 111, 108, 100]⟩, .string ⟨#[]⟩] T)).cell? ⟨w.heap.size, 5, none⟩ = some (.string ⟨(dnL 5).toArray⟩) ∧ (w.alloc (.cells #[.string ⟨#[103, 111, 108, 100]⟩, .string ⟨#[116, 105, 110]⟩, .string ⟨#[116, 114, 97, 110, 115, 102, 101, 114, 47, 49, 47, 103, 111, 108, 100]⟩, .string ⟨#[116, 114, 97, 110, 115, 102, 101, 114, 47, 50, 47, 103, 111, 108, 100]⟩, .string ⟨#[116, 114, 97, 110, 115, 102, 101, 114, 47, 49, 47, 116, 105, 110]⟩, .string ⟨#[116, 114, 97, 110, 115, 102, 101, 114, 47, 50, 47, 116, 114, 97, 110, 115, 102, 101, 114, 47, 49, 47, 103, 111, 108, 100]⟩, .string ⟨#[]⟩] T)).cell? ⟨w.heap.size, 6, none⟩ = some (.string ⟨(dnL 6).toArray⟩) := by
  have h := heap_alloc_new w (.cells #[.string ⟨#[103, 111, 108, 100]⟩, .string ⟨#[116, 105, 110]⟩, .string ⟨#[116, 114, 97, 110, 115, 102, 101, 114, 47, 49, 47, 103, 111, 108, 100]⟩, .string ⟨#[116, 114, 97, 110, 115, 102, 101, 114, 47, 50, 47, 103, 111, 108, 100]⟩, .string ⟨#[116, 114, 97, 110, 115, 102, 101, 114, 47, 49, 47, 116, 105, 110]⟩, .string ⟨#[116, 114, 97, 110, 115, 102, 101, 114, 47, 50, 47, 116, 114, 97, 110, 115, 102, 101, 114, 47, 49, 47, 103, 111, 108, 100]⟩, .string ⟨#[]⟩] T)
  refine ⟨?_, ?_, ?_, ?_, ?_, ?_, ?_⟩ <;> (unfold World.cell?; rw [h]; rfl)
set_option maxRecDepth 100000 in
theorem denom_any (c : Int) (hc : I64 c) (w : World) :
    Calls Try.prog 22 #[.int .i64 c] w fun e w' => e = .returned (.string ⟨(dnL (pk c 7)).toArray⟩) ∧ New w w' := by
  have P := fun w => pickC_any c 7 w hc (by omega) (by omega)
  have hk := pk_lt c 7 (by omega)
  generalize pk c 7 = k at *
  go_enter Try.func22, Try.ntmps22
  go_wp2_with fail
  refine (P _).mono ?_
  rintro e w1 ⟨rfl, rfl⟩
  have n1 := (New.refl w).alloc (.cells #[.string ⟨#[103, 111, 108, 100]⟩, .string ⟨#[116, 105, 110]⟩, .string ⟨#[116, 114, 97, 110, 115, 102, 101, 114, 47, 49, 47, 103, 111, 108, 100]⟩, .string ⟨#[116, 114, 97, 110, 115, 102, 101, 114, 47, 50, 47, 103, 111, 108, 100]⟩, .string ⟨#[116, 114, 97, 110, 115, 102, 101, 114, 47, 49, 47, 116, 105, 110]⟩, .string ⟨#[116, 114, 97, 110, 115, 102, 101, 114, 47, 50, 47, 116, 114, 97, 110, 115, 102, 101, 114, 47, 49, 47, 103, 111, 108, 100]⟩, .string ⟨#[]⟩] 9)
  have d1 := dnL_cells w 9
  generalize World.alloc w _ = w2 at *
  generalize w.heap.size = q at *
  have hk2 : k = 0 ∨ k = 1 ∨ k = 2 ∨ k = 3 ∨ k = 4 ∨ k = 5 ∨ k = 6 := by omega
  rcases hk2 with rfl | rfl | rfl | rfl | rfl | rfl | rfl
  all_goals
    go_wp2_with fail
    go_ret
    exact ⟨rfl, n1⟩
end Go.Proofs.Ytcldbipipehedaa
