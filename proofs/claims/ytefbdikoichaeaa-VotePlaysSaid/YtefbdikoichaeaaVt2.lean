/-
  VOTE: vote.Tree in memory; at, Len.
-/
import Derived.Test.YtefbdikoichaeaaVt1
import Derived.Test.YtefbdikoichaeaaVtL
namespace Go.Proofs.Ytefbdikoichaeaa
open Go.RowKit

theorem addr_add0 (b n : Nat) : (⟨b, 0, none⟩ : Addr).add n = ⟨b, n, none⟩ := by
  unfold Addr.add
  split
  · rename_i h; subst h; rfl
  · simp

def Bl.cells (x : Bl) : List Value := [.int .u64 x.view, .complex .f64 (fl x.ht) (fl x.par)]
def rowsV (l : List Bl) : List Value := l.flatMap Bl.cells
theorem rowsV_length (l : List Bl) : (rowsV l).length = 2 * l.length := by
  induction l with
  | nil => rfl
  | cons a l ih => rw [show rowsV (a :: l) = a.cells ++ rowsV l from rfl, List.length_append, ih]; simp [Bl.cells]; omega
theorem rowsV_append (l m : List Bl) : rowsV (l ++ m) = rowsV l ++ rowsV m := by simp [rowsV]
theorem rowsV_at (l : List Bl) : ∀ i, i < l.length → (rowsV l)[i * 2]? = some (.int .u64 (vw l i)) ∧ (rowsV l)[i * 2 + 1]? = some (.complex .f64 (fl (ht l i)) (fl (pr l i))) := by
  induction l with
  | nil => intro i h; simp at h
  | cons a l ih =>
    intro i h
    rw [show rowsV (a :: l) = a.cells ++ rowsV l from rfl]
    rcases i with _ | i
    · exact ⟨rfl, rfl⟩
    · have := ih i (by simpa using h)
      have e1 : (i + 1) * 2 = i * 2 + a.cells.length := by simp [Bl.cells]; omega
      have e2 : (i + 1) * 2 + 1 = i * 2 + 1 + a.cells.length := by simp [Bl.cells]; omega
      rw [e1, show i * 2 + a.cells.length + 1 = i * 2 + 1 + a.cells.length by omega, List.getElem?_append_right (by omega), List.getElem?_append_right (by omega), Nat.add_sub_cancel, Nat.add_sub_cancel]
      exact this

/-- block b is a vote.Tree of the blocks l, which lie in block g -/
structure Tr (w : World) (b g cap : Nat) (l : List Bl) : Prop where
  blk : w.heap[b]? = some (.cells #[.slice (some ⟨g, 0, none⟩) l.length cap] 64 (0, 0))
  own : w.ownsRow 0 61 2 (.slice (some ⟨g, 0, none⟩) l.length cap) l.length (rowsV l)
  ne : g ≠ b
theorem Tr.cell {w : World} {b g cap : Nat} {l : List Bl} (h : Tr w b g cap l) : w.cell? ⟨b, 0, none⟩ = some (.slice (some ⟨g, 0, none⟩) l.length cap) := by rw [cell_blk h.blk]; rfl
theorem Tr.at {w : World} {b g cap : Nat} {l : List Bl} (h : Tr w b g cap l) (i : Nat) (hi : i < l.length) :
    w.cell? ⟨g, i * 2, none⟩ = some (.int .u64 (vw l i)) ∧ w.cell? ⟨g, i * 2 + 1, none⟩ = some (.complex .f64 (fl (ht l i)) (fl (pr l i))) := by
  have hc := h.own.cells (g := g) rfl
  obtain ⟨r1, r2⟩ := rowsV_at l i hi
  have c1 := hc _ _ r1
  have c2 := hc _ _ r2
  rw [addr_add0] at c1 c2
  exact ⟨c1, c2⟩
theorem Tr.keepS {w w' : World} {b g cap : Nat} {l : List Bl} {S : Nat → Prop} (h : Tr w b g cap l) (k : Keeps S w w') (hb : ¬ S b) (hg : ¬ S g) : Tr w' b g cap l :=
  ⟨k.kept h.blk hb, Keeps.owns k h.own (fun j e => by simp [Value.ownBlock] at e; subst e; exact hg), h.ne⟩
theorem Tr.keep {w w' : World} {b g cap : Nat} {l : List Bl} (h : Tr w b g cap l) (k : New w w') : Tr w' b g cap l := h.keepS k (fun h => h) (fun h => h)
theorem Tr.lt {w : World} {b g cap : Nat} {l : List Bl} (h : Tr w b g cap l) : b < w.heap.size := (Array.getElem?_eq_some_iff.1 h.blk).1

theorem len_any (b g cap : Nat) (l : List Bl) (w : World) (h : Tr w b g cap l) :
    Calls Try.prog 14 #[.pointer (some ⟨b, 0, none⟩)] w fun e w' => e = .returned (.int .i64 l.length) ∧ w = w' := by
  have hc := h.cell
  go_enter Try.func14, Try.ntmps14
  go_wp2
  go_ret
  exact ⟨rfl, rfl⟩

theorem at_in (b g cap : Nat) (l : List Bl) (i : Nat) (hi : i < l.length) (w : World) (h : Tr w b g cap l) :
    Calls Try.prog 36 #[.pointer (some ⟨b, 0, none⟩), .int .i64 i] w fun e w' => e = .returned (.pointer (some ⟨g, i * 2, none⟩)) ∧ w = w' := by
  have hc := h.cell
  go_enter Try.func36, Try.ntmps36
  go_wp2
  go_ret
  exact ⟨rfl, rfl⟩
theorem at_out (b g cap : Nat) (l : List Bl) (i : Int) (hi : inT l i = false) (w : World) (h : Tr w b g cap l) :
    Calls Try.prog 36 #[.pointer (some ⟨b, 0, none⟩), .int .i64 i] w fun e w' => e = .returned (.pointer none) ∧ w = w' := by
  have hc := h.cell
  by_cases h1 : i < 0
  · have e1 : decide (i < 0) = true := by simp [h1]
    go_enter Try.func36, Try.ntmps36
    go_wp2
    go_ret
    exact ⟨rfl, rfl⟩
  · have h2 : (l.length : Int) ≤ i := by simp [inT] at hi; omega
    have e1 : decide (i < 0) = false := by simp; omega
    have e2 : decide ((l.length : Int) ≤ i) = true := by simp; omega
    go_enter Try.func36, Try.ntmps36
    go_wp2
    go_ret
    exact ⟨rfl, rfl⟩
end Go.Proofs.Ytefbdikoichaeaa
