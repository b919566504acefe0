/-
  VOTE, PLAIN: what the laws Line, Three, Keeps and Grows say of a tree as a list. No program in sight.
-/
import Derived.Test.YtefbdikoichaeaaVtA
namespace Go.Proofs.Ytefbdikoichaeaa

theorem WfT.ext_self {l : List Bl} (h : WfT l) {a : Nat} (ha : a < l.length) : extB l a a = true := (h.extB_iff ha).2 (Anc.refl l a)
theorem WfT.ext_root {l : List Bl} (h : WfT l) {a : Nat} (ha : a < l.length) : extB l 0 a = true := (h.extB_iff ha).2 (h.anc_zero ha)
theorem WfT.ext_anti {l : List Bl} (h : WfT l) {a b : Nat} (ha : a < l.length) (hb : b < l.length) (e : extB l a b = true) (e2 : extB l b a = true) : a = b := by
  have h1 := h.anc_le hb ((h.extB_iff hb).1 e)
  have h2 := h.anc_le ha ((h.extB_iff ha).1 e2)
  omega
theorem WfT.ext_trans {l : List Bl} (h : WfT l) {a b c : Nat} (hb : b < l.length) (hc : c < l.length) (e : extB l a b = true) (e2 : extB l b c = true) : extB l a c = true :=
  (h.extB_iff hc).2 (((h.extB_iff hb).1 e).trans ((h.extB_iff hc).1 e2))
theorem WfT.ext_low {l : List Bl} (h : WfT l) {a b : Nat} (hb : b < l.length) (e : extB l a b = true) : ht l a ≤ ht l b ∧ vw l a ≤ vw l b :=
  ⟨h.anc_ht hb ((h.extB_iff hb).1 e), h.anc_vw hb ((h.extB_iff hb).1 e)⟩

/-- a block commits none, or one three ahead, in views that follow one another -/
theorem WfT.com_cases {l : List Bl} (h : WfT l) {a : Nat} (ha : a < l.length) :
    comN l a = -1 ∨ ∃ r : Nat, comN l a = r ∧ r = pr l (pr l (pr l a)) ∧ r < l.length ∧ Anc l r a ∧ ht l a = ht l r + 3 ∧ vw l (pr l a) = vw l r + 2 ∧ pr l a ≠ 0 ∧ pr l (pr l a) ≠ 0 ∧ vw l (pr l a) = vw l (pr l (pr l a)) + 1 ∧ vw l (pr l (pr l a)) = vw l r + 1 := by
  unfold comN
  split
  · exact .inl rfl
  · rename_i hn
    simp only [not_or, ne_eq, Classical.not_not] at hn
    obtain ⟨n0, n1, n2, v1, v2⟩ := hn
    have l1 := h.pr_lt ha
    have l2 := h.pr_lt l1
    have l3 := h.pr_lt l2
    have s0 := (h.step a (by omega) ha).2.1
    have s1 := (h.step _ (by omega) l1).2.1
    have s2 := (h.step _ (by omega) l2).2.1
    exact .inr ⟨_, rfl, rfl, l3, ⟨3, rfl⟩, by omega, by omega, n1, n2, v1, v2⟩
theorem WfT.com_ext {l : List Bl} (h : WfT l) {a b ca cb : Nat} (ha : a < l.length) (hb : b < l.length) (e : extB l a b = true) (h1 : comN l a = ca) (h2 : comN l b = cb) :
    ca < l.length ∧ cb < l.length ∧ extB l ca cb = true := by
  have ea := (h.extB_iff hb).1 e
  rcases h.com_cases ha with k | ⟨r, k, _, hr, ar, hh, _⟩
  · omega
  rcases h.com_cases hb with k2 | ⟨r2, k2, _, hr2, ar2, hh2, _⟩
  · omega
  obtain rfl : r = ca := by omega
  obtain rfl : r2 = cb := by omega
  refine ⟨hr, hr2, (h.extB_iff hr2).2 (h.anc_line hb (ar.trans ea) ar2 ?_)⟩
  have := h.anc_ht hb ea
  omega
/-- .. by heights -/
theorem WfT.com_high {l : List Bl} (h : WfT l) {a : Nat} (ha : a < l.length) :
    comN l a = if 3 ≤ ht l a ∧ vw l (pr l a) = vw l (pr l (pr l a)) + 1 ∧ vw l (pr l (pr l a)) = vw l (pr l (pr l (pr l a))) + 1 then (pr l (pr l (pr l a)) : Int) else -1 := by
  have l1 := h.pr_lt ha
  have l2 := h.pr_lt l1
  have e : 3 ≤ ht l a ↔ a ≠ 0 ∧ pr l a ≠ 0 ∧ pr l (pr l a) ≠ 0 := by
    have h1 := h.ht_pr ha
    have h2 := h.ht_pr l1
    constructor
    · intro h3
      refine ⟨?_, ?_, ?_⟩
      · rintro rfl; rw [h.zero.2.2] at h3; omega
      · intro e; rw [e, h.zero.2.2] at h1; omega
      · intro e; rw [e, h.zero.2.2] at h2; omega
    · rintro ⟨n0, n1, n2⟩
      have s0 := (h.step a (by omega) ha).2.1
      have s1 := (h.step _ (by omega) l1).2.1
      have s2 := (h.step _ (by omega) l2).2.1
      omega
  unfold comN
  by_cases c : 3 ≤ ht l a ∧ vw l (pr l a) = vw l (pr l (pr l a)) + 1 ∧ vw l (pr l (pr l a)) = vw l (pr l (pr l (pr l a))) + 1
  · rw [if_pos c, if_neg]
    rintro (k | k | k | k | k)
    · exact (e.1 c.1).1 k
    · exact (e.1 c.1).2.1 k
    · exact (e.1 c.1).2.2 k
    · exact k c.2.1
    · exact k c.2.2
  · rw [if_neg c, if_pos]
    by_cases n0 : a = 0
    · exact .inl n0
    by_cases n1 : pr l a = 0
    · exact .inr (.inl n1)
    by_cases n2 : pr l (pr l a) = 0
    · exact .inr (.inr (.inl n2))
    by_cases v1 : vw l (pr l a) = vw l (pr l (pr l a)) + 1
    · exact .inr (.inr (.inr (.inr fun v2 => c ⟨e.2 ⟨n0, n1, n2⟩, v1, v2⟩)))
    · exact .inr (.inr (.inr (.inl v1)))

theorem mayI_nat {l : List Bl} (h : WfT l) {voted lock b : Nat} (hk : lock < l.length) (hb : b < l.length) :
    mayI l voted lock b = (!(b == 0) && decide (voted < vw l b) && (decide (vw l lock < vw l (pr l b)) || extB l lock b)) := by
  unfold mayI
  rw [inT_nat hb, inT_nat hk, viewI_nat hb, viewI_nat hk, parI_nat hb, viewI_nat (h.pr_lt hb), extI_nat hk hb]
  have e : ((b : Int) == 0) = (b == 0) := by rw [Bool.eq_iff_iff]; simp
  rw [e]; simp
theorem gpI_nat {l : List Bl} (h : WfT l) {b : Nat} (hb : b < l.length) : gpI l b = (pr l (pr l b) : Nat) := by
  unfold gpI; rw [parI_nat hb, parI_nat (h.pr_lt hb)]
theorem aftV_nat {l : List Bl} {voted b : Nat} (hb : b < l.length) : aftV l voted b = max voted (vw l b) := by
  unfold aftV; rw [if_pos (inT_nat hb), viewI_nat hb]
/-- the lock behind a vote -/
def lkN (l : List Bl) (lock b : Nat) : Nat := if vw l lock < vw l (pr l (pr l b)) then pr l (pr l b) else lock
theorem aftL_nat {l : List Bl} (h : WfT l) {lock b : Nat} (hk : lock < l.length) (hb : b < l.length) : aftL l lock b = lkN l lock b := by
  unfold aftL lkN
  rw [inT_nat hb, inT_nat hk, gpI_nat h hb, viewI_nat hk, viewI_nat (h.pr_lt (h.pr_lt hb))]
  by_cases c : vw l lock < vw l (pr l (pr l b)) <;> simp [c]
theorem lkN_lt {l : List Bl} (h : WfT l) {lock b : Nat} (hk : lock < l.length) (hb : b < l.length) : lkN l lock b < l.length := by
  unfold lkN; split
  · exact h.pr_lt (h.pr_lt hb)
  · exact hk
theorem lkN_ge (l : List Bl) (lock b : Nat) : vw l lock ≤ vw l (lkN l lock b) ∧ vw l (pr l (pr l b)) ≤ vw l (lkN l lock b) := by
  unfold lkN; split <;> constructor <;> omega
theorem lkN_again (l : List Bl) (lock b : Nat) : lkN l (lkN l lock b) b = lkN l lock b := by
  have := (lkN_ge l lock b).2
  rw [show lkN l (lkN l lock b) b = if vw l (lkN l lock b) < vw l (pr l (pr l b)) then pr l (pr l b) else lkN l lock b from rfl, if_neg (by omega)]
end Go.Proofs.Ytefbdikoichaeaa
