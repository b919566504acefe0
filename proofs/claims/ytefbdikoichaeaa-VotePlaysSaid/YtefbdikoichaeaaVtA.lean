/-
  VOTE, PLAIN: a tree of blocks as a list; ancestors; what Extends, May, After and Commits answer. No program in sight.
-/
import Derived.Test.YtefbdikoichaeaaMath
namespace Go.Proofs.Ytefbdikoichaeaa

structure Bl where
  view : Nat
  par : Nat
  ht : Nat
instance : Inhabited Bl := ⟨⟨0, 0, 0⟩⟩
def vw (l : List Bl) (i : Nat) : Nat := (l.getD i default).view
def pr (l : List Bl) (i : Nat) : Nat := (l.getD i default).par
def ht (l : List Bl) (i : Nat) : Nat := (l.getD i default).ht
/-- a tree: block 0 begins; each other one extends an earlier one, in a later view -/
structure WfT (l : List Bl) : Prop where
  len : l.length ≤ 256
  pos : 0 < l.length
  zero : vw l 0 = 0 ∧ pr l 0 = 0 ∧ ht l 0 = 0
  step : ∀ i, 0 < i → i < l.length → pr l i < i ∧ ht l i = ht l (pr l i) + 1 ∧ vw l (pr l i) < vw l i
  u64 : ∀ i, U64 (vw l i)
theorem WfT.pr_lt {l : List Bl} (h : WfT l) {i : Nat} (hi : i < l.length) : pr l i < l.length := by
  rcases Nat.eq_zero_or_pos i with rfl | h0
  · rw [h.zero.2.1]; exact h.pos
  · have := (h.step i h0 hi).1; omega
theorem WfT.pr_le {l : List Bl} (h : WfT l) {i : Nat} (hi : i < l.length) : pr l i ≤ i := by
  rcases Nat.eq_zero_or_pos i with rfl | h0
  · rw [h.zero.2.1]; exact Nat.le_refl _
  · have := (h.step i h0 hi).1; omega
theorem WfT.ht_le {l : List Bl} (h : WfT l) : ∀ i, i < l.length → ht l i ≤ i := by
  intro i
  induction i using Nat.strongRecOn with
  | _ i ih =>
    intro hi
    rcases Nat.eq_zero_or_pos i with rfl | h0
    · rw [h.zero.2.2]; exact Nat.le_refl _
    · obtain ⟨h1, h2, _⟩ := h.step i h0 hi
      have := ih _ h1 (by omega)
      omega
theorem WfT.ht_zero {l : List Bl} (h : WfT l) {i : Nat} (hi : i < l.length) (e : ht l i = 0) : i = 0 := by
  rcases Nat.eq_zero_or_pos i with rfl | h0
  · rfl
  · have := (h.step i h0 hi).2.1; omega
theorem WfT.ht_pr {l : List Bl} (h : WfT l) {i : Nat} (hi : i < l.length) : ht l (pr l i) = ht l i - 1 := by
  rcases Nat.eq_zero_or_pos i with rfl | h0
  · rw [h.zero.2.1, h.zero.2.2]
  · have := (h.step i h0 hi).2.1; omega
theorem WfT.vw_pr {l : List Bl} (h : WfT l) {i : Nat} (hi : i < l.length) : vw l (pr l i) ≤ vw l i := by
  rcases Nat.eq_zero_or_pos i with rfl | h0
  · rw [h.zero.2.1]; exact Nat.le_refl _
  · have := (h.step i h0 hi).2.2; omega

/-- the tree of the first block alone -/
theorem wfT_one : WfT [⟨0, 0, 0⟩] :=
  ⟨by simp, by simp, ⟨rfl, rfl, rfl⟩, fun i h0 hi => by simp at hi; omega, fun i => by rcases i with _ | i <;> (show (0 : Nat) < _; decide)⟩
/-- a block more -/
def addB (l : List Bl) (p v : Nat) : List Bl := l ++ [⟨v, p, ht l p + 1⟩]
theorem addB_length (l : List Bl) (p v : Nat) : (addB l p v).length = l.length + 1 := by simp [addB]
theorem vw_addB (l : List Bl) (p v : Nat) {i : Nat} (hi : i < l.length) : vw (addB l p v) i = vw l i := by simp [vw, addB, List.getElem?_append_left hi]
theorem pr_addB (l : List Bl) (p v : Nat) {i : Nat} (hi : i < l.length) : pr (addB l p v) i = pr l i := by simp [pr, addB, List.getElem?_append_left hi]
theorem ht_addB (l : List Bl) (p v : Nat) {i : Nat} (hi : i < l.length) : ht (addB l p v) i = ht l i := by simp [ht, addB, List.getElem?_append_left hi]
theorem vw_addB_new (l : List Bl) (p v : Nat) : vw (addB l p v) l.length = v := by simp [vw, addB, List.getD]
theorem pr_addB_new (l : List Bl) (p v : Nat) : pr (addB l p v) l.length = p := by simp [pr, addB, List.getD]
theorem ht_addB_new (l : List Bl) (p v : Nat) : ht (addB l p v) l.length = ht l p + 1 := by simp [ht, addB, List.getD]
theorem vw_beyond (l : List Bl) {i : Nat} (hi : l.length ≤ i) : vw l i = 0 := by
  simp [vw, List.getD, List.getElem?_eq_none hi]; rfl
theorem WfT.add {l : List Bl} (h : WfT l) {p v : Nat} (hp : p < l.length) (hv : vw l p < v) (hu : U64 v) (hl : l.length < 256) : WfT (addB l p v) := by
  refine ⟨by rw [addB_length]; omega, by rw [addB_length]; omega, ?_, ?_, ?_⟩
  · rw [vw_addB _ _ _ h.pos, pr_addB _ _ _ h.pos, ht_addB _ _ _ h.pos]; exact h.zero
  · intro i h0 hi
    rw [addB_length] at hi
    by_cases e : i = l.length
    · subst e
      rw [pr_addB_new, ht_addB_new, vw_addB_new, ht_addB _ _ _ hp, vw_addB _ _ _ hp]
      exact ⟨hp, rfl, hv⟩
    · have hi' : i < l.length := by omega
      have hq := h.pr_lt hi'
      rw [pr_addB _ _ _ hi', ht_addB _ _ _ hi', vw_addB _ _ _ hi', ht_addB _ _ _ hq, vw_addB _ _ _ hq]
      exact h.step i h0 hi'
  · intro i
    by_cases e : i < l.length
    · rw [vw_addB _ _ _ e]; exact h.u64 i
    · by_cases e2 : i = l.length
      · subst e2; rw [vw_addB_new]; exact hu
      · rw [vw_beyond _ (by rw [addB_length]; omega)]; show (0 : Nat) < _; decide

/-- k blocks ahead -/
def up (l : List Bl) : Nat → Nat → Nat
  | 0, b => b
  | k + 1, b => up l k (pr l b)
theorem up_add (l : List Bl) : ∀ j k b, up l (j + k) b = up l k (up l j b) := by
  intro j
  induction j with
  | zero => intro k b; rw [Nat.zero_add]; rfl
  | succ j ih => intro k b; rw [show j + 1 + k = (j + k) + 1 by omega]; exact ih k (pr l b)
theorem up_one (l : List Bl) (b : Nat) : up l 1 b = pr l b := rfl
theorem WfT.up_zero {l : List Bl} (h : WfT l) : ∀ k, up l k 0 = 0 := by
  intro k
  induction k with
  | zero => rfl
  | succ k ih => show up l k (pr l 0) = 0; rw [h.zero.2.1]; exact ih
theorem WfT.up_lt {l : List Bl} (h : WfT l) : ∀ k b, b < l.length → up l k b < l.length := by
  intro k
  induction k with
  | zero => intro b hb; exact hb
  | succ k ih => intro b hb; exact ih _ (h.pr_lt hb)
theorem WfT.up_le {l : List Bl} (h : WfT l) : ∀ k b, b < l.length → up l k b ≤ b := by
  intro k
  induction k with
  | zero => intro b hb; exact Nat.le_refl _
  | succ k ih => intro b hb; exact Nat.le_trans (ih _ (h.pr_lt hb)) (h.pr_le hb)
theorem WfT.up_ht {l : List Bl} (h : WfT l) : ∀ k b, b < l.length → ht l (up l k b) = ht l b - k := by
  intro k
  induction k with
  | zero => intro b hb; rfl
  | succ k ih =>
    intro b hb
    show ht l (up l k (pr l b)) = _
    rw [ih _ (h.pr_lt hb), h.ht_pr hb]; omega
theorem WfT.up_vw {l : List Bl} (h : WfT l) : ∀ k b, b < l.length → vw l (up l k b) ≤ vw l b := by
  intro k
  induction k with
  | zero => intro b hb; exact Nat.le_refl _
  | succ k ih => intro b hb; exact Nat.le_trans (ih _ (h.pr_lt hb)) (h.vw_pr hb)
theorem WfT.up_root {l : List Bl} (h : WfT l) {k b : Nat} (hb : b < l.length) (hk : ht l b ≤ k) : up l k b = 0 :=
  h.ht_zero (h.up_lt k b hb) (by rw [h.up_ht k b hb]; omega)

/-- a is b, or ahead of it -/
def Anc (l : List Bl) (a b : Nat) : Prop := ∃ k, up l k b = a
theorem Anc.refl (l : List Bl) (a : Nat) : Anc l a a := ⟨0, rfl⟩
theorem Anc.trans {l : List Bl} {a b c : Nat} (h : Anc l a b) (k : Anc l b c) : Anc l a c := by
  obtain ⟨i, rfl⟩ := h
  obtain ⟨j, rfl⟩ := k
  exact ⟨j + i, up_add l j i c⟩
theorem anc_pr (l : List Bl) (b : Nat) : Anc l (pr l b) b := ⟨1, rfl⟩
theorem WfT.anc_zero {l : List Bl} (h : WfT l) {b : Nat} (hb : b < l.length) : Anc l 0 b := ⟨_, h.up_root hb (Nat.le_refl _)⟩
theorem WfT.anc_lt {l : List Bl} (h : WfT l) {a b : Nat} (hb : b < l.length) (k : Anc l a b) : a < l.length := by
  obtain ⟨i, rfl⟩ := k; exact h.up_lt i b hb
theorem WfT.anc_le {l : List Bl} (h : WfT l) {a b : Nat} (hb : b < l.length) (k : Anc l a b) : a ≤ b := by
  obtain ⟨i, rfl⟩ := k; exact h.up_le i b hb
theorem WfT.anc_ht {l : List Bl} (h : WfT l) {a b : Nat} (hb : b < l.length) (k : Anc l a b) : ht l a ≤ ht l b := by
  obtain ⟨i, rfl⟩ := k; rw [h.up_ht i b hb]; omega
theorem WfT.anc_vw {l : List Bl} (h : WfT l) {a b : Nat} (hb : b < l.length) (k : Anc l a b) : vw l a ≤ vw l b := by
  obtain ⟨i, rfl⟩ := k; exact h.up_vw i b hb
theorem WfT.anc_eq {l : List Bl} (h : WfT l) {a b : Nat} (hb : b < l.length) (k : Anc l a b) (e : ht l b ≤ ht l a) : a = b := by
  obtain ⟨i, rfl⟩ := k
  rw [h.up_ht i b hb] at e
  rcases Nat.eq_zero_or_pos i with rfl | hi
  · rfl
  · have : ht l b = 0 := by omega
    have := h.ht_zero hb this
    subst this
    exact h.up_zero i
theorem WfT.anc_line {l : List Bl} (h : WfT l) {a b c : Nat} (hc : c < l.length) (ka : Anc l a c) (kb : Anc l b c) (e : ht l a ≤ ht l b) : Anc l a b := by
  obtain ⟨i, rfl⟩ := ka
  obtain ⟨j, rfl⟩ := kb
  rw [h.up_ht i c hc, h.up_ht j c hc] at e
  by_cases hij : j ≤ i
  · exact ⟨i - j, by rw [← up_add]; congr 1; omega⟩
  · rw [h.up_root hc (by omega)]
    exact h.anc_zero (h.up_lt j c hc)
theorem anc_pr_iff {l : List Bl} {a b : Nat} (hne : b ≠ a) : Anc l a b ↔ Anc l a (pr l b) := by
  constructor
  · rintro ⟨k, rfl⟩
    rcases k with _ | k
    · exact absurd rfl hne
    · exact ⟨k, rfl⟩
  · rintro ⟨k, h⟩
    exact ⟨k + 1, h⟩

/-- .. as a question -/
def extB (l : List Bl) (a b : Nat) : Bool := (List.range (b + 1)).any fun k => up l k b == a
theorem WfT.extB_iff {l : List Bl} (h : WfT l) {a b : Nat} (hb : b < l.length) : extB l a b = true ↔ Anc l a b := by
  unfold extB
  rw [List.any_eq_true]
  constructor
  · rintro ⟨k, _, hk⟩
    exact ⟨k, by simpa using hk⟩
  · rintro ⟨k, rfl⟩
    by_cases hk : k ≤ b
    · exact ⟨k, by simp; omega, by simp⟩
    · refine ⟨b, by simp, ?_⟩
      rw [h.up_root hb (h.ht_le b hb), h.up_root hb (by have := h.ht_le b hb; omega)]
      rfl
theorem WfT.extB_eq {l : List Bl} (h : WfT l) {a b c : Nat} (hb : b < l.length) (hc : c < l.length) (e : Anc l a b ↔ Anc l a c) : extB l a b = extB l a c := by
  rw [Bool.eq_iff_iff, h.extB_iff hb, h.extB_iff hc]; exact e
theorem up_addB {l : List Bl} (h : WfT l) (p v : Nat) : ∀ k b, b < l.length → up (addB l p v) k b = up l k b := by
  intro k
  induction k with
  | zero => intro b hb; rfl
  | succ k ih =>
    intro b hb
    show up (addB l p v) k (pr (addB l p v) b) = up l k (pr l b)
    rw [pr_addB _ _ _ hb]
    exact ih _ (h.pr_lt hb)
theorem WfT.anc_addB {l : List Bl} (h : WfT l) (p v : Nat) {a b : Nat} (hb : b < l.length) : Anc (addB l p v) a b ↔ Anc l a b := by
  constructor <;> rintro ⟨k, rfl⟩
  · exact ⟨k, (up_addB h p v k b hb).symm⟩
  · exact ⟨k, up_addB h p v k b hb⟩
theorem WfT.anc_new {l : List Bl} (h : WfT l) {p v a : Nat} (hp : p < l.length) (ha : a ≠ l.length) : Anc (addB l p v) a l.length ↔ Anc l a p := by
  rw [anc_pr_iff (fun e => ha e.symm), pr_addB_new, h.anc_addB p v hp]

/-- is it one of the tree's blocks? -/
def inT (l : List Bl) (b : Int) : Bool := decide (0 ≤ b) && decide (b < (l.length : Int))
theorem inT_iff {l : List Bl} {b : Int} (h : inT l b = true) : ∃ n : Nat, b = n ∧ n < l.length := by
  simp [inT] at h
  exact ⟨b.toNat, by omega, by omega⟩
theorem inT_nat {l : List Bl} {n : Nat} (h : n < l.length) : inT l n = true := by simp [inT]; omega
theorem inT_out {l : List Bl} {b : Int} (h : inT l b = false) : b < 0 ∨ (l.length : Int) ≤ b := by
  simp [inT] at h; omega

/-! what is asked of whatever numbers -/
def viewI (l : List Bl) (b : Int) : Nat := if inT l b then vw l b.toNat else 0
def parI (l : List Bl) (b : Int) : Int := if inT l b then (pr l b.toNat : Int) else -1
def htI (l : List Bl) (b : Int) : Nat := if inT l b then ht l b.toNat else 0
def extI (l : List Bl) (a b : Int) : Bool := inT l a && inT l b && extB l a.toNat b.toNat
theorem viewI_nat {l : List Bl} {n : Nat} (h : n < l.length) : viewI l n = vw l n := by unfold viewI; rw [if_pos (inT_nat h)]; rfl
theorem parI_nat {l : List Bl} {n : Nat} (h : n < l.length) : parI l n = pr l n := by unfold parI; rw [if_pos (inT_nat h)]; rfl
theorem htI_nat {l : List Bl} {n : Nat} (h : n < l.length) : htI l n = ht l n := by unfold htI; rw [if_pos (inT_nat h)]; rfl
theorem extI_nat {l : List Bl} {a b : Nat} (ha : a < l.length) (hb : b < l.length) : extI l a b = extB l a b := by unfold extI; rw [inT_nat ha, inT_nat hb]; rfl
theorem viewI_out {l : List Bl} {b : Int} (h : inT l b = false) : viewI l b = 0 := by unfold viewI; rw [h]; rfl
theorem parI_out {l : List Bl} {b : Int} (h : inT l b = false) : parI l b = -1 := by unfold parI; rw [h]; rfl
theorem htI_out {l : List Bl} {b : Int} (h : inT l b = false) : htI l b = 0 := by unfold htI; rw [h]; rfl
theorem extI_out1 {l : List Bl} {a b : Int} (h : inT l a = false) : extI l a b = false := by unfold extI; rw [h]; rfl
theorem extI_out2 {l : List Bl} {a b : Int} (h : inT l b = false) : extI l a b = false := by unfold extI; rw [h, Bool.and_false]; rfl

/-- whoever voted in 'voted' and is locked on 'lock' may vote for b -/
def mayI (l : List Bl) (voted : Nat) (lock b : Int) : Bool :=
  inT l b && inT l lock && !(b == 0) && decide (voted < viewI l b) && (decide (viewI l lock < viewI l (parI l b)) || extI l lock b)
/-- the block two ahead -/
def gpI (l : List Bl) (b : Int) : Int := parI l (parI l b)
def aftV (l : List Bl) (voted : Nat) (b : Int) : Nat := if inT l b then max voted (viewI l b) else voted
def aftL (l : List Bl) (lock b : Int) : Int := if inT l b && (!inT l lock || decide (viewI l lock < viewI l (gpI l b))) then gpI l b else lock
/-- what a block commits -/
def comN (l : List Bl) (b : Nat) : Int :=
  if b = 0 ∨ pr l b = 0 ∨ pr l (pr l b) = 0 ∨ vw l (pr l b) ≠ vw l (pr l (pr l b)) + 1 ∨ vw l (pr l (pr l b)) ≠ vw l (pr l (pr l (pr l b))) + 1 then -1 else (pr l (pr l (pr l b)) : Int)
def comI (l : List Bl) (b : Int) : Int := if inT l b then comN l b.toNat else -1
theorem comI_nat {l : List Bl} {b : Nat} (h : b < l.length) : comI l b = comN l b := by unfold comI; rw [if_pos (inT_nat h)]; rfl
theorem comI_out {l : List Bl} {b : Int} (h : inT l b = false) : comI l b = -1 := by unfold comI; rw [h]; rfl
end Go.Proofs.Ytefbdikoichaeaa
