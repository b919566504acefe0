/-
  PLAIN: what an act that is OK leaves of the supply; sums over holders. No walk here.
-/
import Derived.Test.YtcldbipipehedaaSum
namespace Go.Proofs.Ytcldbipipehedaa
def supW (k M v : Nat) : Nat := if k ≤ 1 then addM M v else if k = 2 then subM M v else M
theorem ds_sup {s : BkS} {x : A10} (h : dsE s x = 0) : (dsS s x).sup (dbL (pk x.den 4)) = supW (pk x.what 6) (s.sup (dbL (pk x.den 4))) x.n := by
  unfold dsE at h
  unfold dsS supW
  generalize acL (pk x.fr 5) = fr at *
  generalize acL (pk x.to 5) = tw at *
  generalize dbL (pk x.den 4) = v at *
  by_cases h1 : pk x.what 6 ≤ 1
  · rw [if_pos h1] at h ⊢
    rw [if_pos h1]
    obtain ⟨q1, -, -⟩ := mint_ok h
    unfold mintS
    rw [if_pos h]
    show upd1 s.sup v (s.sup v + x.n) v = _
    unfold upd1 addM
    rw [if_pos rfl]
    omega
  · rw [if_neg h1] at h ⊢
    rw [if_neg h1]
    by_cases h2 : pk x.what 6 = 2
    · rw [if_pos h2] at h ⊢
      rw [if_pos h2]
      unfold burnS
      rw [if_pos h]
      show upd1 s.sup v _ v = _
      unfold upd1
      rw [if_pos rfl]
    · rw [if_neg h2, if_neg h2]
      exact send_sup _ _ _ _ _ _
theorem supW_mint {k : Nat} (h : k ≤ 1) (M v : Nat) : supW k M v = addM M v := by unfold supW; rw [if_pos h]
theorem supW_burn {k : Nat} (h : k = 2) (M v : Nat) : supW k M v = subM M v := by unfold supW; rw [if_neg (by omega), if_pos h]
theorem supW_send {k : Nat} (h : 3 ≤ k) (M v : Nat) : supW k M v = M := by unfold supW; rw [if_neg (by omega), if_neg (by omega)]
/-- the balances of the first j of a list together -/
def sumT (f : List UInt8 → Nat) (l : List (List UInt8)) (j : Nat) : Nat := ((l.take j).map f).sum
theorem sumT_zero (f : List UInt8 → Nat) (l : List (List UInt8)) : sumT f l 0 = 0 := rfl
theorem sumT_succ (f : List UInt8 → Nat) (l : List (List UInt8)) {j : Nat} {a : List UInt8} (h : l[j]? = some a) : sumT f l (j + 1) = sumT f l j + f a := by
  obtain ⟨hj, rfl⟩ := List.getElem?_eq_some_iff.1 h
  unfold sumT
  rw [List.take_succ_eq_append_getElem hj, List.map_append, List.sum_append]
  simp
theorem sumT_le (f : List UInt8 → Nat) (l : List (List UInt8)) (j : Nat) : sumT f l j ≤ (l.map f).sum := by
  unfold sumT
  have h2 : l.map f = (l.take j).map f ++ (l.drop j).map f := by rw [← List.map_append, List.take_append_drop]
  rw [h2, List.sum_append]; omega
theorem sumT_all (f : List UInt8 → Nat) (l : List (List UInt8)) {j : Nat} (h : l.length ≤ j) : sumT f l j = (l.map f).sum := by
  unfold sumT; rw [List.take_of_length_le h]
theorem hold_lt {f : List UInt8 → Nat} {l : List (List UInt8)} (h : HoldL f l) {j : Nat} {a b : List UInt8} (ha : l[j]? = some a) (hb : l[j + 1]? = some b) : a < b := by
  obtain ⟨hj, rfl⟩ := List.getElem?_eq_some_iff.1 ha
  obtain ⟨hk, rfl⟩ := List.getElem?_eq_some_iff.1 hb
  exact List.pairwise_iff_getElem.1 h.1 j (j + 1) hj hk (by omega)
end Go.Proofs.Ytcldbipipehedaa
