/-
  PLAIN: what is under way between two banks. No walk here.
-/
import Derived.Test.YtcldbipipehedaaKpF
import Derived.Test.YtcldbipipehedaaOwn
namespace Go.Proofs.Ytcldbipipehedaa
/-- a coin under way -/
structure Wy where
  fr : Nat
  c : Co
  failed : Bool
/-- does it count for the money d of the bank side, whose voucher at the other one is v? -/
def cnt (side : Nat) (d v : List UInt8) (x : Wy) : Nat := if x.fr = side ∧ x.c.den = d ∨ x.fr ≠ side ∧ x.c.den = v then x.c.amt else 0
def und (l : List Wy) (side : Nat) (d v : List UInt8) : Nat := (l.map (cnt side d v)).sum
theorem und_nil (side : Nat) (d v : List UInt8) : und [] side d v = 0 := rfl
theorem und_snoc (l : List Wy) (x : Wy) (side : Nat) (d v : List UInt8) : und (l ++ [x]) side d v = und l side d v + cnt side d v x := by
  unfold und; simp
theorem und_out (l : List Wy) (k : Nat) (x : Wy) (hx : l[k]? = some x) (side : Nat) (d v : List UInt8) : und (l.take k ++ l.drop (k + 1)) side d v + cnt side d v x = und l side d v := by
  obtain ⟨hk, rfl⟩ := List.getElem?_eq_some_iff.1 hx
  have h : l = l.take k ++ (l[k] :: l.drop (k + 1)) := by rw [List.getElem_cons_drop, List.take_append_drop]
  have h2 : und l side d v = und (l.take k ++ (l[k] :: l.drop (k + 1))) side d v := by rw [← h]
  rw [h2]
  unfold und
  simp only [List.map_append, List.sum_append, List.map_cons, List.sum_cons]
  omega
theorem und_take (l : List Wy) (k : Nat) (x : Wy) (hx : l[k]? = some x) (side : Nat) (d v : List UInt8) : und (l.take (k + 1)) side d v = und (l.take k) side d v + cnt side d v x := by
  obtain ⟨hk, rfl⟩ := List.getElem?_eq_some_iff.1 hx
  rw [List.take_succ_eq_append_getElem hk, und_snoc]
theorem und_le (l : List Wy) (k : Nat) (side : Nat) (d v : List UInt8) : und (l.take k) side d v ≤ und l side d v := by
  have h2 : und l side d v = und (l.take k ++ l.drop k) side d v := by rw [List.take_append_drop]
  rw [h2]; unfold und; rw [List.map_append, List.sum_append]; omega
/-- the three accounts of people together -/
def t3 (s : BkS) (d : List UInt8) : Nat := s.bal d xAnn + s.bal d xBob + s.bal d xCy
/-- the voucher of a money at the other bank -/
def vchr (side k : Nat) : List UInt8 := vouL (2 - side) (owL side k)
/-- what is kept of one money: s its own bank, t the other one -/
def kept (s t : BkS) (l : List Wy) (side k much : Nat) : Prop :=
  t3 s (owL side k) + s.bal (owL side k) (escL (1 + side)) = much ∧ s.sup (owL side k) = much ∧ t3 t (vchr side k) = t.sup (vchr side k) ∧
    s.bal (owL side k) (escL (1 + side)) = t.sup (vchr side k) + und l side (owL side k) (vchr side k)
end Go.Proofs.Ytcldbipipehedaa
