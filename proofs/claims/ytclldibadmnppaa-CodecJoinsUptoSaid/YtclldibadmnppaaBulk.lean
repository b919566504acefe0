/-
  WHAT THE BOUND ON THE BULK GIVES for lists of items: how long they are laid. No walk here.
-/
import Derived.Test.YtclldibadmnppaaOpen
namespace Go.Proofs.Ytclldibadmnppaa
open Go.RowKit

theorem items_bulk {H : Type} (l : List It) : (lays l).length ≤ 2 * Rows.uptoBulkAll (l.map fun x : It => DataW.agg (H := H) [.lit (.bool x.isT), .lit (.int .u64 x.n), .lit (.string x.s)]) := by
  induction l with
  | nil => simp [lays_nil, Rows.uptoBulkAll]
  | cons x l ih =>
    have e : lays (x :: l) = x.lay ++ lays l := by rw [← lays_one x, ← lays_append]; rfl
    rw [e, List.length_append, It.lay_length]
    simp only [List.map_cons, Rows.uptoBulkAll, Rows.uptoBulk] at *
    split <;> omega
theorem items_count {H : Type} (l : List It) : l.length ≤ Rows.uptoBulkAll (l.map fun x : It => DataW.agg (H := H) [.lit (.bool x.isT), .lit (.int .u64 x.n), .lit (.string x.s)]) := by
  induction l with
  | nil => simp
  | cons x l ih =>
    simp only [List.map_cons, Rows.uptoBulkAll, Rows.uptoBulk, List.length_cons] at *
    omega
theorem items_le {H : Type} {d : DataW H} {l : List It} {r : List (DataW H)} (hd : d = .nil ∧ l = [] ∨ ∃ sp, d = .slice (l.map fun x : It => .agg [.lit (.bool x.isT), .lit (.int .u64 x.n), .lit (.string x.s)]) sp) (hb : Rows.uptoBulkAll (d :: r) ≤ 1048576) :
    (lays l).length ≤ 2097152 ∧ l.length ≤ 1048576 ∧ Rows.uptoBulkAll r ≤ 1048576 := by
  simp only [Rows.uptoBulkAll] at hb
  rcases hd with ⟨rfl, rfl⟩ | ⟨sp, rfl⟩
  · simp [lays_nil]; omega
  · have h := items_bulk (H := H) l
    have h2 := items_count (H := H) l
    simp only [Rows.uptoBulk] at hb
    exact ⟨by omega, by omega, by omega⟩
end Go.Proofs.Ytclldibadmnppaa
