/-
  PLAIN: the steps between two banks keep what is kept. No walk here. (Begun.)
-/
import Derived.Test.YtcldbipipehedaaKpL
namespace Go.Proofs.Ytcldbipipehedaa
theorem esc_ne (n : Nat) : escL n ≠ xAnn ∧ escL n ≠ xBob ∧ escL n ≠ xCy := by
  have h := escL_length n
  refine ⟨?_, ?_, ?_⟩ <;> intro e <;> rw [e] at h <;> simp [xAnn, xBob, xCy] at h <;> omega
theorem ppl_ne : xAnn ≠ xBob ∧ xAnn ≠ xCy ∧ xBob ≠ xCy := by decide
theorem send_ok {s : BkS} {a c d : List UInt8} {v : Nat} (h : sendE s a c d v = 0) : v ≤ s.bal d a := by
  unfold sendE at h
  split at h
  · split at h
    · cases h
    · omega
  · rename_i h2; exact absurd h h2
theorem kept_out {s t : BkS} {l : List Wy} {side k much : Nat} (h : kept s t l side k much) (hm : much < 18446744073709551616) {a to : List UInt8} (ha : a = xAnn ∨ a = xBob ∨ a = xCy) {v : Nat}
    (hE : sendE s a (escL (1 + side)) (owL side k) v = 0) : kept (sendS s a (escL (1 + side)) (owL side k) v) t (l ++ [⟨side, ⟨owL side k, v, a, to⟩, false⟩]) side k much := by
  obtain ⟨h1, h2, h3, h4⟩ := h
  have hv := send_ok hE
  obtain ⟨e1, e2, e3⟩ := esc_ne (1 + side)
  obtain ⟨p1, p2, p3⟩ := ppl_ne
  have hc : cnt side (owL side k) (vchr side k) ⟨side, ⟨owL side k, v, a, to⟩, false⟩ = v := by unfold cnt; simp
  unfold t3 at h1
  have hac : a ≠ escL (1 + side) := by rcases ha with rfl | rfl | rfl <;> (intro e; first | exact e1 e.symm | exact e2 e.symm | exact e3 e.symm)
  have hb : s.bal (owL side k) a + s.bal (owL side k) (escL (1 + side)) ≤ much := by rcases ha with rfl | rfl | rfl <;> omega
  obtain ⟨q1, q2, q3⟩ := send_at hE hv hac (by omega) (by omega)
  refine ⟨?_, by rw [send_sup]; exact h2, h3, by rw [q2, und_snoc, hc, h4]; omega⟩
  unfold t3
  rw [q2]
  rcases ha with rfl | rfl | rfl
  · rw [q1, q3 _ p1.symm e2.symm, q3 _ p2.symm e3.symm]; omega
  · rw [q1, q3 _ p1 e1.symm, q3 _ p3.symm e3.symm]; omega
  · rw [q1, q3 _ p2 e1.symm, q3 _ p3 e2.symm]; omega
/-- from the escrow to one of the people: a Back of own money, or an In of money that goes home -/
theorem kept_home {s t : BkS} {l : List Wy} {side k much : Nat} (h : kept s t l side k much) (hm : much < 18446744073709551616) {a : List UInt8} (ha : a = xAnn ∨ a = xBob ∨ a = xCy) {v : Nat} {j : Nat} {x : Wy} (hx : l[j]? = some x)
    (hc : cnt side (owL side k) (vchr side k) x = v) (hE : sendE s (escL (1 + side)) a (owL side k) v = 0) : kept (sendS s (escL (1 + side)) a (owL side k) v) t (l.take j ++ l.drop (j + 1)) side k much := by
  obtain ⟨h1, h2, h3, h4⟩ := h
  have hv := send_ok hE
  obtain ⟨e1, e2, e3⟩ := esc_ne (1 + side)
  obtain ⟨p1, p2, p3⟩ := ppl_ne
  have hu := und_out l j x hx side (owL side k) (vchr side k)
  rw [hc] at hu
  unfold t3 at h1
  have hac : escL (1 + side) ≠ a := by rcases ha with rfl | rfl | rfl <;> (intro e; first | exact e1 e | exact e2 e | exact e3 e)
  have hb : s.bal (owL side k) a + s.bal (owL side k) (escL (1 + side)) ≤ much := by rcases ha with rfl | rfl | rfl <;> omega
  obtain ⟨q1, q2, q3⟩ := send_at hE hv hac (by omega) (by omega)
  refine ⟨?_, by rw [send_sup]; exact h2, h3, by rw [q1]; omega⟩
  unfold t3
  rw [q1]
  rcases ha with rfl | rfl | rfl
  · rw [q2, q3 _ e2.symm p1.symm, q3 _ e3.symm p2.symm]; omega
  · rw [q2, q3 _ e1.symm p1, q3 _ e3.symm p3.symm]; omega
  · rw [q2, q3 _ e1.symm p2, q3 _ e2.symm p3]; omega
theorem burn_ok {s : BkS} {a d : List UInt8} {v : Nat} (h : burnE s a d v = 0) : v ≤ s.bal d a := by
  unfold burnE at h
  split at h
  · split at h
    · cases h
    · omega
  · rename_i h2; exact absurd h h2
/-- an Out of a voucher at the other bank -/
theorem kept_burn {s t : BkS} {l : List Wy} {side k much : Nat} (h : kept s t l side k much) (hm : much < 18446744073709551616) {a to : List UInt8} (ha : a = xAnn ∨ a = xBob ∨ a = xCy) {v : Nat} {o : Nat} (ho : o ≠ side)
    (hE : burnE t a (vchr side k) v = 0) : kept s (burnS t a (vchr side k) v) (l ++ [⟨o, ⟨vchr side k, v, a, to⟩, false⟩]) side k much := by
  obtain ⟨h1, h2, h3, h4⟩ := h
  have hv := burn_ok hE
  obtain ⟨p1, p2, p3⟩ := ppl_ne
  have hc : cnt side (owL side k) (vchr side k) ⟨o, ⟨vchr side k, v, a, to⟩, false⟩ = v := by unfold cnt; simp [ho]
  have hle : s.bal (owL side k) (escL (1 + side)) ≤ much := by omega
  unfold t3 at h3
  have hb : t.bal (vchr side k) a ≤ t.sup (vchr side k) := by rcases ha with rfl | rfl | rfl <;> omega
  obtain ⟨q1, q2, q3⟩ := burn_at hE hv (by omega) (by omega) (by omega)
  refine ⟨h1, h2, ?_, by rw [q1, und_snoc, hc]; omega⟩
  unfold t3
  rw [q1]
  rcases ha with rfl | rfl | rfl
  · rw [q2, q3 _ p1.symm, q3 _ p2.symm]; omega
  · rw [q2, q3 _ p1, q3 _ p3.symm]; omega
  · rw [q2, q3 _ p2, q3 _ p3]; omega
/-- an In of own money at the other bank, or a Back of a voucher there -/
theorem kept_mint {s t : BkS} {l : List Wy} {side k much : Nat} (h : kept s t l side k much) (hm : much < 18446744073709551616) {a : List UInt8} (ha : a = xAnn ∨ a = xBob ∨ a = xCy) {v : Nat} {j : Nat} {x : Wy} (hx : l[j]? = some x)
    (hc : cnt side (owL side k) (vchr side k) x = v) (hE : mintE t a (vchr side k) v = 0) : kept s (mintS t a (vchr side k) v) (l.take j ++ l.drop (j + 1)) side k much := by
  obtain ⟨h1, h2, h3, h4⟩ := h
  obtain ⟨p1, p2, p3⟩ := ppl_ne
  have hu := und_out l j x hx side (owL side k) (vchr side k)
  rw [hc] at hu
  have hle : s.bal (owL side k) (escL (1 + side)) ≤ much := by omega
  unfold t3 at h3
  have hb : t.bal (vchr side k) a ≤ t.sup (vchr side k) := by rcases ha with rfl | rfl | rfl <;> omega
  obtain ⟨q1, q2, q3⟩ := mint_at hE (by omega)
  refine ⟨h1, h2, ?_, by rw [q1]; omega⟩
  unfold t3
  rw [q1]
  rcases ha with rfl | rfl | rfl
  · rw [q2, q3 _ p1.symm, q3 _ p2.symm]; omega
  · rw [q2, q3 _ p1, q3 _ p3.symm]; omega
  · rw [q2, q3 _ p2, q3 _ p3]; omega
end Go.Proofs.Ytcldbipipehedaa
