/-
  PLAIN: a Send among people keeps what is kept; what is not touched is as it was. No walk here.
-/
import Derived.Test.YtcldbipipehedaaKpS
namespace Go.Proofs.Ytcldbipipehedaa
theorem kept_same {s s' t t' : BkS} {l : List Wy} {side k much : Nat} (h : kept s t l side k much) (h1 : s'.sup (owL side k) = s.sup (owL side k)) (h2 : ∀ b, s'.bal (owL side k) b = s.bal (owL side k) b)
    (h3 : t'.sup (vchr side k) = t.sup (vchr side k)) (h4 : ∀ b, t'.bal (vchr side k) b = t.bal (vchr side k) b) {l' : List Wy} (h5 : und l' side (owL side k) (vchr side k) = und l side (owL side k) (vchr side k)) : kept s' t' l' side k much := by
  unfold kept t3 at h ⊢
  rw [h1, h2, h2, h2, h2, h3, h4, h4, h4, h5]
  exact h
theorem kept_send {s t : BkS} {l : List Wy} {side k much : Nat} (h : kept s t l side k much) (hm : much < 18446744073709551616) {a c : List UInt8} (ha : a = xAnn ∨ a = xBob ∨ a = xCy) (hc : c = xAnn ∨ c = xBob ∨ c = xCy) {v : Nat}
    (hE : sendE s a c (owL side k) v = 0) : kept (sendS s a c (owL side k) v) t l side k much := by
  obtain ⟨h1, h2, h3, h4⟩ := h
  have hv := send_ok hE
  obtain ⟨e1, e2, e3⟩ := esc_ne (1 + side)
  obtain ⟨p1, p2, p3⟩ := ppl_ne
  by_cases hac : a = c
  · subst hac
    have hb : s.bal (owL side k) a ≤ much := by unfold t3 at h1; rcases ha with rfl | rfl | rfl <;> omega
    have q := send_self (s := s) hv (by omega)
    refine ⟨?_, by rw [send_sup]; exact h2, h3, by rw [q]; exact h4⟩
    unfold t3 at h1 ⊢
    rw [q, q, q, q]; exact h1
  · unfold t3 at h1
    have hb : s.bal (owL side k) a + s.bal (owL side k) c ≤ much := by rcases ha with rfl | rfl | rfl <;> rcases hc with rfl | rfl | rfl <;> first | omega | exact absurd rfl hac
    obtain ⟨q1, q2, q3⟩ := send_at hE hv hac (by omega) (by omega)
    have qe := q3 (escL (1 + side)) (by rcases ha with rfl | rfl | rfl <;> assumption) (by rcases hc with rfl | rfl | rfl <;> assumption)
    refine ⟨?_, by rw [send_sup]; exact h2, h3, by rw [qe]; exact h4⟩
    unfold t3
    rw [qe]
    rcases ha with rfl | rfl | rfl <;> rcases hc with rfl | rfl | rfl <;> first
      | exact absurd rfl hac
      | (rw [q1, q2, q3 _ p2.symm p3.symm]; omega)
      | (rw [q1, q2, q3 _ p3.symm p2.symm]; omega)
      | (rw [q1, q2, q3 _ p1.symm p3]; omega)
      | (rw [q1, q2, q3 _ p3 p1.symm]; omega)
      | (rw [q1, q2, q3 _ p1 p2]; omega)
      | (rw [q1, q2, q3 _ p2 p1]; omega)
end Go.Proofs.Ytcldbipipehedaa
