/-
  VOTE: voussoirref13.Tree in memory; has, Len, View, Parent, Height.
-/
import Derived.Test.YtefbdikoichaeaaVt9
import Derived.Deep.RegionWith
import Derived.LoopTactic
namespace Go.Proofs.Ytefbdikoichaeaa
open Go.RowKit

def Bl.cells3 (x : Bl) : List Value := [.int .u64 x.view, .int .i64 x.par, .int .i64 x.ht]
def rowsD (l : List Bl) : List Value := l.flatMap Bl.cells3
theorem rowsD_length (l : List Bl) : (rowsD l).length = 3 * l.length := by
  induction l with
  | nil => rfl
  | cons a l ih => rw [show rowsD (a :: l) = a.cells3 ++ rowsD l from rfl, List.length_append, ih]; simp [Bl.cells3]; omega
theorem rowsD_append (l m : List Bl) : rowsD (l ++ m) = rowsD l ++ rowsD m := by simp [rowsD]
theorem rowsD_at (l : List Bl) : ∀ i, i < l.length → (rowsD l)[i * 3]? = some (.int .u64 (vw l i)) ∧ (rowsD l)[i * 3 + 1]? = some (.int .i64 (pr l i)) ∧ (rowsD l)[i * 3 + 2]? = some (.int .i64 (ht l i)) := by
  induction l with
  | nil => intro i h; simp at h
  | cons a l ih =>
    intro i h
    rw [show rowsD (a :: l) = a.cells3 ++ rowsD l from rfl]
    rcases i with _ | i
    · exact ⟨rfl, rfl, rfl⟩
    · have := ih i (by simpa using h)
      have e1 : (i + 1) * 3 = i * 3 + a.cells3.length := by simp [Bl.cells3]; omega
      have e2 : (i + 1) * 3 + 1 = i * 3 + 1 + a.cells3.length := by simp [Bl.cells3]; omega
      have e3 : (i + 1) * 3 + 2 = i * 3 + 2 + a.cells3.length := by simp [Bl.cells3]; omega
      rw [e2, e3, e1, List.getElem?_append_right (by omega), List.getElem?_append_right (by omega), List.getElem?_append_right (by omega), Nat.add_sub_cancel, Nat.add_sub_cancel, Nat.add_sub_cancel]
      exact this

/-- block b is a voussoirref13.Tree of the blocks l, which lie in block g -/
structure Td (w : World) (b g cap : Nat) (l : List Bl) : Prop where
  blk : w.heap[b]? = some (.cells #[.slice (some ⟨g, 0, none⟩) l.length cap] 72 (0, 0))
  own : w.ownsRow 0 69 3 (.slice (some ⟨g, 0, none⟩) l.length cap) l.length (rowsD l)
  ne : g ≠ b
theorem Td.cell {w : World} {b g cap : Nat} {l : List Bl} (h : Td w b g cap l) : w.cell? ⟨b, 0, none⟩ = some (.slice (some ⟨g, 0, none⟩) l.length cap) := by rw [cell_blk h.blk]; rfl
theorem Td.at {w : World} {b g cap : Nat} {l : List Bl} (h : Td w b g cap l) (i : Nat) (hi : i < l.length) :
    w.cell? ⟨g, i * 3, none⟩ = some (.int .u64 (vw l i)) ∧ w.cell? ⟨g, i * 3 + 1, none⟩ = some (.int .i64 (pr l i)) ∧ w.cell? ⟨g, i * 3 + 2, none⟩ = some (.int .i64 (ht l i)) := by
  have hc := h.own.cells (g := g) rfl
  obtain ⟨r1, r2, r3⟩ := rowsD_at l i hi
  have c1 := hc _ _ r1
  have c2 := hc _ _ r2
  have c3 := hc _ _ r3
  rw [addr_add0] at c1 c2 c3
  exact ⟨c1, c2, c3⟩
theorem Td.keepS {w w' : World} {b g cap : Nat} {l : List Bl} {S : Nat → Prop} (h : Td w b g cap l) (k : Keeps S w w') (hb : ¬ S b) (hg : ¬ S g) : Td w' b g cap l :=
  ⟨k.kept h.blk hb, Keeps.owns k h.own (fun j e => by simp [Value.ownBlock] at e; subst e; exact hg), h.ne⟩
theorem Td.keep {w w' : World} {b g cap : Nat} {l : List Bl} (h : Td w b g cap l) (k : New w w') : Td w' b g cap l := h.keepS k (fun h => h) (fun h => h)
theorem Td.lt {w : World} {b g cap : Nat} {l : List Bl} (h : Td w b g cap l) : b < w.heap.size := (Array.getElem?_eq_some_iff.1 h.blk).1

theorem lenD (b g cap : Nat) (l : List Bl) (w : World) (h : Td w b g cap l) :
    Calls Try.prog 23 #[.pointer (some ⟨b, 0, none⟩)] w fun e w' => e = .returned (.int .i64 l.length) ∧ w = w' := by
  have hc := h.cell
  go_enter Try.func23, Try.ntmps23
  go_wp2
  go_ret
  exact ⟨rfl, rfl⟩
theorem hasD (b g cap : Nat) (l : List Bl) (i : Int) (w : World) (h : Td w b g cap l) :
    Calls Try.prog 39 #[.pointer (some ⟨b, 0, none⟩), .int .i64 i] w fun e w' => e = .returned (.bool (inT l i)) ∧ w = w' := by
  have hc := h.cell
  by_cases h1 : 0 ≤ i
  · have e1 : decide (0 ≤ i) = true := by simp [h1]
    have e2 : inT l i = decide (i < (l.length : Int)) := by simp [inT, h1]
    rw [e2]
    go_enter Try.func39, Try.ntmps39
    go_wp2
    go_ret
    exact ⟨rfl, rfl⟩
  · have e1 : decide (0 ≤ i) = false := by simp; omega
    have e2 : inT l i = false := by simp [inT]; omega
    rw [e2]
    go_enter Try.func39, Try.ntmps39
    go_wp2
    go_ret
    exact ⟨rfl, rfl⟩
theorem viewD (b g cap : Nat) (l : List Bl) (i : Int) (w : World) (h : Td w b g cap l) :
    Calls Try.prog 24 #[.pointer (some ⟨b, 0, none⟩), .int .i64 i] w fun e w' => e = .returned (.int .u64 (viewI l i)) ∧ w = w' := by
  have H := hasD b g cap l i w h
  rcases hi : inT l i with _ | _
  · rw [viewI_out hi]
    rw [hi] at H
    go_enter Try.func24, Try.ntmps24
    go_wp2_with fail
    refine H.mono ?_
    rintro e w' ⟨rfl, rfl⟩
    go_wp2_with fail
    go_ret
    exact ⟨rfl, rfl⟩
  · rw [hi] at H
    obtain ⟨n, rfl, hn⟩ := inT_iff hi
    rw [viewI_nat hn]
    have hc := h.cell
    have c := h.at n hn
    clear hi
    go_enter Try.func24, Try.ntmps24
    go_wp2_with fail
    refine H.mono ?_
    rintro e w' ⟨rfl, rfl⟩
    go_wp2_with fail
    go_ret
    exact ⟨rfl, rfl⟩
theorem parD (b g cap : Nat) (l : List Bl) (i : Int) (w : World) (h : Td w b g cap l) :
    Calls Try.prog 31 #[.pointer (some ⟨b, 0, none⟩), .int .i64 i] w fun e w' => e = .returned (.int .i64 (parI l i)) ∧ w = w' := by
  have H := hasD b g cap l i w h
  rcases hi : inT l i with _ | _
  · rw [parI_out hi]
    rw [hi] at H
    go_enter Try.func31, Try.ntmps31
    go_wp2_with fail
    refine H.mono ?_
    rintro e w' ⟨rfl, rfl⟩
    go_wp2_with fail
    go_ret
    exact ⟨rfl, rfl⟩
  · rw [hi] at H
    obtain ⟨n, rfl, hn⟩ := inT_iff hi
    rw [parI_nat hn]
    have hc := h.cell
    have c := h.at n hn
    clear hi
    go_enter Try.func31, Try.ntmps31
    go_wp2_with fail
    refine H.mono ?_
    rintro e w' ⟨rfl, rfl⟩
    go_wp2_with fail
    go_ret
    exact ⟨rfl, rfl⟩
theorem htD (b g cap : Nat) (l : List Bl) (i : Int) (w : World) (h : Td w b g cap l) :
    Calls Try.prog 32 #[.pointer (some ⟨b, 0, none⟩), .int .i64 i] w fun e w' => e = .returned (.int .i64 (htI l i)) ∧ w = w' := by
  have H := hasD b g cap l i w h
  rcases hi : inT l i with _ | _
  · rw [htI_out hi]
    rw [hi] at H
    go_enter Try.func32, Try.ntmps32
    go_wp2_with fail
    refine H.mono ?_
    rintro e w' ⟨rfl, rfl⟩
    go_wp2_with fail
    go_ret
    exact ⟨rfl, rfl⟩
  · rw [hi] at H
    obtain ⟨n, rfl, hn⟩ := inT_iff hi
    rw [htI_nat hn]
    have hc := h.cell
    have c := h.at n hn
    clear hi
    go_enter Try.func32, Try.ntmps32
    go_wp2_with fail
    refine H.mono ?_
    rintro e w' ⟨rfl, rfl⟩
    go_wp2_with fail
    go_ret
    exact ⟨rfl, rfl⟩
end Go.Proofs.Ytefbdikoichaeaa
