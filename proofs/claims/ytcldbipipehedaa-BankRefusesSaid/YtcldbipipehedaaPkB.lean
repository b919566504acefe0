/-
  voussoirlaw10.account and voussoirlaw10.denom.
-/
import Derived.Test.YtcldbipipehedaaPkC
namespace Go.Proofs.Ytcldbipipehedaa
open Go.RowKit
/-- one account of few -/
def acL : Nat → List UInt8
  | 0 => [97, 110, 110]
  | 1 => [98, 111, 98]
  | 2 => [99, 121]
  | 3 => []
  | _ => [48, 49, 50, 51, 52, 53, 54, 55, 56, 57, 48, 49, 50, 51, 52, 53, 54, 55, 56, 57, 48, 49, 50, 51, 52, 53, 54, 55, 56, 57, 48, 49, 50]
theorem acL_len (k : Nat) : (acL k).length ≤ 40 := by
  unfold acL; split <;> decide
theorem acL_cells (w : World) (T : TypeId) : (w.alloc (.cells #[.string ⟨#[97, 110, 110]⟩, .string ⟨#[98, 111, 98]⟩, .string ⟨#[99, 121]⟩, .string ⟨#[]⟩, .string ⟨#[48, 49, 50, 51, 52, 53, 54, 55, 56, 57, 48, 49, 50, 51, 52, 53, 54, 55, 56, 57, 48, 49, 50, 51, 52, 53, 54, 55, 56, 57, 48, 49, 50]⟩] T)).cell? ⟨w.heap.size, 0, none⟩ = some (.string ⟨(acL 0).toArray⟩) ∧ (w.alloc (.cells #[.string ⟨#[97, 110, 110]⟩, .string ⟨#[98, 111, 98]⟩, .string ⟨#[99, 121]⟩, .string ⟨#[]⟩, .string ⟨#[48, 49, 50, 51, 52, 53, 54, 55, 56, 57, 48, 49, 50, 51, 52, 53, 54, 55, 56, 57, 48, 49, 50, 51, 52, 53, 54, 55, 56, 57, 48, 49, 50]⟩] T)).cell? ⟨w.heap.size, 1, none⟩ = some (.string ⟨(acL 1).toArray⟩) ∧ (w.alloc (.cells #[.string ⟨#[97, 110, 110]⟩, .string ⟨#[98, 111, 98]⟩, .string ⟨#[99, 121]⟩, .string ⟨#[]⟩, .string ⟨#[48, 49, 50, 51, 52, 53, 54, 55, 56, 57, 48, 49, 50, 51, 52, 53, 54, 55, 56, 57, 48, 49, 50, 51, 52, 53, 54, 55, 56, 57, 48, 49, 50]⟩] T)).cell? ⟨w.heap.size, 2, none⟩ = some (.string ⟨(acL 2).toArray⟩) ∧ (w.alloc (.cells #[.string ⟨#[97, 110, 110]⟩, .string ⟨#[98, 111, 98]⟩, .string ⟨#[99, 121]⟩, .string ⟨#[]⟩, .string ⟨#[48, 49, 50, 51, 52, 53, 54, 55, 56, 57, 48, 49, 50, 51, 52, 53, 54, 55, 56, 57, 48, 49, 50, 51, 52, 53, 54, 55, 56, 57, 48, 49, 50]⟩] T)).cell? ⟨w.heap.size, 3, none⟩ = some (.string ⟨(acL 3).toArray⟩) ∧ (w.alloc (.cells #[.string ⟨#[97, 110, 110]⟩, .string ⟨#[98, 111, 98]⟩, .string ⟨#[99, 121]⟩, .string ⟨#[]⟩, .string ⟨#[48, 49, 50, 51, 52, 53, 54, 55, 56, 57, 48, 49, 50, 51, 52, 53, 54, 55, 56, 57, 48, 49, 50, 51, 52, 53, 54, 55, 56, 57, 48, 49, 50]⟩] T)).cell? ⟨w.heap.size, 4, none⟩ = some (.string ⟨(acL 4).toArray⟩) := by
  have h := heap_alloc_new w (.cells #[.string ⟨#[97, 110, 110]⟩, .string ⟨#[98, 111, 98]⟩, .string ⟨#[99, 121]⟩, .string ⟨#[]⟩, .string ⟨#[48, 49, 50, 51, 52, 53, 54, 55, 56, 57, 48, 49, 50, 51, 52, 53, 54, 55, 56, 57, 48, 49, 50, 51, 52, 53, 54, 55, 56, 57, 48, 49, 50]⟩] T)
  refine ⟨?_, ?_, ?_, ?_, ?_⟩ <;> (unfold World.cell?; rw [h]; rfl)
set_option maxRecDepth 100000 in
theorem account_any (c : Int) (hc : I64 c) (w : World) :
    Calls Try.prog 54 #[.int .i64 c] w fun e w' => e = .returned (.string ⟨(acL (pk c 5)).toArray⟩) ∧ New w w' := by
  have P := fun w => pickB_any c 5 w hc (by omega) (by omega)
  have hk := pk_lt c 5 (by omega)
  generalize pk c 5 = k at *
  go_enter Try.func54, Try.ntmps54
  go_wp2_with fail
  refine (P _).mono ?_
  rintro e w1 ⟨rfl, rfl⟩
  have n1 := (New.refl w).alloc (.cells #[.string ⟨#[97, 110, 110]⟩, .string ⟨#[98, 111, 98]⟩, .string ⟨#[99, 121]⟩, .string ⟨#[]⟩, .string ⟨#[48, 49, 50, 51, 52, 53, 54, 55, 56, 57, 48, 49, 50, 51, 52, 53, 54, 55, 56, 57, 48, 49, 50, 51, 52, 53, 54, 55, 56, 57, 48, 49, 50]⟩] 9)
  have d1 := acL_cells w 9
  generalize World.alloc w _ = w2 at *
  generalize w.heap.size = q at *
  have hk2 : k = 0 ∨ k = 1 ∨ k = 2 ∨ k = 3 ∨ k = 4 := by omega
  rcases hk2 with rfl | rfl | rfl | rfl | rfl
  all_goals
    go_wp2_with fail
    go_ret
    exact ⟨rfl, n1⟩
/-- one denomination of few -/
def dbL : Nat → List UInt8
  | 0 => [103, 111, 108, 100]
  | 1 => [116, 105, 110]
  | 2 => [116, 114, 97, 110, 115, 102, 101, 114, 47, 49, 47, 103, 111, 108, 100]
  | _ => []
theorem dbL_len (k : Nat) : (dbL k).length ≤ 40 := by
  unfold dbL; split <;> decide
theorem dbL_cells (w : World) (T : TypeId) : (w.alloc (.cells #[.string ⟨#[103, 111, 108, 100]⟩, .string ⟨#[116, 105, 110]⟩, .string ⟨#[116, 114, 97, 110, 115, 102, 101, 114, 47, 49, 47, 103, 111, 108, 100]⟩, .string ⟨#[]⟩] T)).cell? ⟨w.heap.size, 0, none⟩ = some (.string ⟨(dbL 0).toArray⟩) ∧ (w.alloc (.cells #[.string ⟨#[103, 111, 108, 100]⟩, .string ⟨#[116, 105, 110]⟩, .string ⟨#[116, 114, 97, 110, 115, 102, 101, 114, 47, 49, 47, 103, 111, 108, 100]⟩, .string ⟨#[]⟩] T)).cell? ⟨w.heap.size, 1, none⟩ = some (.string ⟨(dbL 1).toArray⟩) ∧ (w.alloc (.cells #[.string ⟨#[103, 111, 108, 100]⟩, .string ⟨#[116, 105, 110]⟩, .string ⟨#[116, 114, 97, 110, 115, 102, 101, 114, 47, 49, 47, 103, 111, 108, 100]⟩, .string ⟨#[]⟩] T)).cell? ⟨w.heap.size, 2, none⟩ = some (.string ⟨(dbL 2).toArray⟩) ∧ (w.alloc (.cells #[.string ⟨#[103, 111, 108, 100]⟩, .string ⟨#[116, 105, 110]⟩, .string ⟨#[116, 114, 97, 110, 115, 102, 101, 114, 47, 49, 47, 103, 111, 108, 100]⟩, .string ⟨#[]⟩] T)).cell? ⟨w.heap.size, 3, none⟩ = some (.string ⟨(dbL 3).toArray⟩) := by
  have h := heap_alloc_new w (.cells #[.string ⟨#[103, 111, 108, 100]⟩, .string ⟨#[116, 105, 110]⟩, .string ⟨#[116, 114, 97, 110, 115, 102, 101, 114, 47, 49, 47, 103, 111, 108, 100]⟩, .string ⟨#[]⟩] T)
  refine ⟨?_, ?_, ?_, ?_⟩ <;> (unfold World.cell?; rw [h]; rfl)
set_option maxRecDepth 100000 in
theorem denomB_any (c : Int) (hc : I64 c) (w : World) :
    Calls Try.prog 49 #[.int .i64 c] w fun e w' => e = .returned (.string ⟨(dbL (pk c 4)).toArray⟩) ∧ New w w' := by
  have P := fun w => pickB_any c 4 w hc (by omega) (by omega)
  have hk := pk_lt c 4 (by omega)
  generalize pk c 4 = k at *
  go_enter Try.func49, Try.ntmps49
  go_wp2_with fail
  refine (P _).mono ?_
  rintro e w1 ⟨rfl, rfl⟩
  have n1 := (New.refl w).alloc (.cells #[.string ⟨#[103, 111, 108, 100]⟩, .string ⟨#[116, 105, 110]⟩, .string ⟨#[116, 114, 97, 110, 115, 102, 101, 114, 47, 49, 47, 103, 111, 108, 100]⟩, .string ⟨#[]⟩] 9)
  have d1 := dbL_cells w 9
  generalize World.alloc w _ = w2 at *
  generalize w.heap.size = q at *
  have hk2 : k = 0 ∨ k = 1 ∨ k = 2 ∨ k = 3 := by omega
  rcases hk2 with rfl | rfl | rfl | rfl
  all_goals
    go_wp2_with fail
    go_ret
    exact ⟨rfl, n1⟩
end Go.Proofs.Ytcldbipipehedaa
