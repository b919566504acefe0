/-
  PLAIN: the document's bank is a row of balances: what Balance, Supply and set make of it, against a bank that is two functions. No walk here.
-/
import Derived.Test.YtcldbipipehedaaTr2
namespace Go.Proofs.Ytcldbipipehedaa
structure Rw where
  ac : List UInt8
  den : List UInt8
  n : Nat
def hitR (d a : List UInt8) (r : Rw) : Bool := (r.ac == a) && (r.den == d)
def rBal (d a : List UInt8) : List Rw → Nat
  | [] => 0
  | r :: l => if hitR d a r then r.n else rBal d a l
def rSup (d : List UInt8) : List Rw → Nat
  | [] => 0
  | r :: l => (if r.den == d then r.n else 0) + rSup d l
def rKeep (d a : List UInt8) (l : List Rw) : List Rw := l.filter (fun r => !hitR d a r)
def rNew (d a : List UInt8) (v : Nat) : List Rw := if 0 < v then [⟨a, d, v⟩] else []
def rSet (d a : List UInt8) (v : Nat) (l : List Rw) : List Rw := rKeep d a l ++ rNew d a v
def oneR (l : List Rw) : Prop := l.Pairwise (fun r q => ¬ (r.ac = q.ac ∧ r.den = q.den))
theorem hit_iff {d a : List UInt8} {r : Rw} : hitR d a r = true ↔ r.ac = a ∧ r.den = d := by unfold hitR; simp
theorem hit_no {d a : List UInt8} {r : Rw} : hitR d a r = false ↔ ¬ (r.ac = a ∧ r.den = d) := by rw [← hit_iff]; simp
theorem rSup_app (d : List UInt8) (l m : List Rw) : rSup d (l ++ m) = rSup d l + rSup d m := by
  induction l with
  | nil => simp [rSup]
  | cons r l ih => simp only [List.cons_append, rSup, ih]; omega
theorem rBal_none {d a : List UInt8} {l : List Rw} (h : ∀ r ∈ l, hitR d a r = false) (m : List Rw) : rBal d a (l ++ m) = rBal d a m := by
  induction l with
  | nil => rfl
  | cons r l ih =>
    simp only [List.cons_append, rBal]
    rw [if_neg (by rw [h r (List.mem_cons_self ..)]; simp)]
    exact ih (fun q hq => h q (List.mem_cons_of_mem _ hq))
theorem rBal_far {d a : List UInt8} (l : List Rw) {m : List Rw} (h : ∀ r ∈ m, hitR d a r = false) : rBal d a (l ++ m) = rBal d a l := by
  induction l with
  | nil =>
    have := rBal_none h []
    simp only [List.append_nil] at this
    rw [List.nil_append, this]
  | cons r l ih => simp only [List.cons_append, rBal, ih]
theorem rKeep_no (d a : List UInt8) (l : List Rw) : ∀ r ∈ rKeep d a l, hitR d a r = false := by
  intro r hr
  have := (List.mem_filter.1 hr).2
  simpa using this
theorem rBal_keep (d a : List UInt8) {d' a' : List UInt8} (h : ¬ (d' = d ∧ a' = a)) (l : List Rw) : rBal d' a' (rKeep d a l) = rBal d' a' l := by
  induction l with
  | nil => rfl
  | cons r l ih =>
    unfold rKeep at ih ⊢
    rw [List.filter_cons]
    rcases hr : hitR d a r with _ | _
    · rw [if_pos (by rfl)]
      simp only [rBal, ih]
    · rw [if_neg (by decide), ih]
      obtain ⟨e1, e2⟩ := hit_iff.1 hr
      simp only [rBal]
      rw [if_neg]
      rw [hit_iff]
      rintro ⟨e3, e4⟩
      exact h ⟨e4.symm.trans e2, e3.symm.trans e1⟩
theorem rBal_set (d a : List UInt8) (v : Nat) (l : List Rw) (d' a' : List UInt8) : rBal d' a' (rSet d a v l) = upd2 (fun d a => rBal d a l) d a v d' a' := by
  unfold rSet upd2
  by_cases h : d' = d ∧ a' = a
  · obtain ⟨rfl, rfl⟩ := h
    rw [if_pos ⟨rfl, rfl⟩, rBal_none (rKeep_no _ _ _)]
    unfold rNew
    split
    · simp [rBal, hitR]
    · rename_i hv
      have : v = 0 := by omega
      subst this; rfl
  · rw [if_neg h, rBal_far, rBal_keep _ _ h]
    intro r hr
    unfold rNew at hr
    split at hr
    · rw [List.mem_singleton] at hr
      subst hr
      rw [hit_no]
      rintro ⟨e1, e2⟩
      exact h ⟨e2.symm, e1.symm⟩
    · cases hr
theorem rSup_keep (d a : List UInt8) (d' : List UInt8) {l : List Rw} (h1 : oneR l) : rSup d' (rKeep d a l) + (if d' = d then rBal d a l else 0) = rSup d' l := by
  induction l with
  | nil => simp [rKeep, rSup, rBal]
  | cons r l ih =>
    obtain ⟨h2, h3⟩ := List.pairwise_cons.1 h1
    have ih := ih h3
    unfold rKeep at ih ⊢
    rw [List.filter_cons]
    rcases hr : hitR d a r with _ | _
    · rw [if_pos (by rfl)]
      simp only [rSup, rBal, hr]
      rw [if_neg (by decide : ¬ (false = true))]
      omega
    · obtain ⟨e1, e2⟩ := hit_iff.1 hr
      have hn : ∀ q ∈ l, hitR d a q = false := fun q hq => by
        rw [hit_no]
        rintro ⟨e3, e4⟩
        exact h2 q hq ⟨e1.trans e3.symm, e2.trans e4.symm⟩
      have h0 : rBal d a l = 0 := by
        have := rBal_none hn []
        simp only [List.append_nil] at this
        rw [this]; rfl
      rw [if_neg (by decide)]
      simp only [rSup, rBal, hr, if_true]
      rw [h0] at ih
      by_cases e : d' = d
      · rw [if_pos e] at ih ⊢
        rw [if_pos (by rw [e2, e]; simp)]
        omega
      · rw [if_neg e] at ih ⊢
        rw [if_neg (by rw [e2]; simp; exact fun x => e x.symm)]
        omega
theorem rSup_set (d a : List UInt8) (v : Nat) {l : List Rw} (h1 : oneR l) (d' : List UInt8) : rSup d' (rSet d a v l) = upd1 (fun d => rSup d l) d (rSup d l - rBal d a l + v) d' := by
  have h := rSup_keep d a d' h1
  unfold rSet upd1
  rw [rSup_app]
  have hN : rSup d' (rNew d a v) = if d' = d then v else 0 := by
    unfold rNew
    by_cases e : d' = d
    · rw [if_pos e]
      split
      · simp [rSup, e]
      · simp only [rSup]; omega
    · rw [if_neg e]
      split
      · simp [rSup, Ne.symm e]
      · rfl
  rw [hN]
  by_cases e : d' = d
  · subst e
    rw [if_pos rfl] at h
    rw [if_pos rfl, if_pos rfl]
    omega
  · rw [if_neg e] at h
    rw [if_neg e, if_neg e]
    omega
theorem bal_le_sup (d a : List UInt8) (l : List Rw) : rBal d a l ≤ rSup d l := by
  induction l with
  | nil => simp [rBal, rSup]
  | cons r l ih =>
    simp only [rBal, rSup]
    rcases hr : hitR d a r with _ | _
    · rw [if_neg (by decide)]; omega
    · obtain ⟨-, e2⟩ := hit_iff.1 hr
      rw [if_pos rfl, if_pos (by rw [e2]; simp)]; omega
theorem one_set (d a : List UInt8) (v : Nat) {l : List Rw} (h1 : oneR l) : oneR (rSet d a v l) := by
  unfold rSet oneR
  rw [List.pairwise_append]
  refine ⟨List.Pairwise.sublist List.filter_sublist h1, ?_, ?_⟩
  · unfold rNew; split <;> simp
  · intro r hr q hq
    have h2 := rKeep_no d a l r hr
    rw [hit_no] at h2
    unfold rNew at hq
    split at hq
    · rw [List.mem_singleton] at hq
      subst hq
      exact h2
    · cases hq
/-- the row stands for the bank -/
structure Rel (l : List Rw) (s : BkS) : Prop where
  bal : ∀ d a, rBal d a l = s.bal d a
  sup : ∀ d, rSup d l = s.sup d
  one : oneR l
  u64 : ∀ d, s.sup d < 18446744073709551616
theorem Rel.le {l : List Rw} {s : BkS} (h : Rel l s) (d a : List UInt8) : s.bal d a ≤ s.sup d := by
  rw [← h.bal, ← h.sup]; exact bal_le_sup d a l
theorem rel_empty : Rel [] emptyB := ⟨fun _ _ => rfl, fun _ => rfl, List.Pairwise.nil, fun _ => by show 0 < _; omega⟩
theorem Rel.cong {l : List Rw} {s t : BkS} (h : Rel l s) (h1 : ∀ d a, s.bal d a = t.bal d a) (h2 : ∀ d, s.sup d = t.sup d) : Rel l t :=
  ⟨fun d a => (h.bal d a).trans (h1 d a), fun d => (h.sup d).trans (h2 d), h.one, fun d => by rw [← h2]; exact h.u64 d⟩
theorem Rel.set {l : List Rw} {s : BkS} (h : Rel l s) (d a : List UInt8) {v : Nat} (hv : s.sup d - s.bal d a + v < 18446744073709551616) :
    Rel (rSet d a v l) ⟨upd2 s.bal d a v, upd1 s.sup d (s.sup d - s.bal d a + v)⟩ := by
  have e1 : (fun d a => rBal d a l) = s.bal := by funext d a; exact h.bal d a
  have e2 : (fun d => rSup d l) = s.sup := by funext d; exact h.sup d
  refine ⟨fun d' a' => ?_, fun d' => ?_, one_set d a v h.one, fun d' => ?_⟩
  · rw [rBal_set, e1]
  · rw [rSup_set d a v h.one, e2, h.sup, h.bal]
  · show upd1 s.sup d _ d' < _
    unfold upd1
    split
    · exact hv
    · exact h.u64 d'
theorem Rel.mint {l : List Rw} {s : BkS} (h : Rel l s) {a d : List UInt8} {v : Nat} (hE : mintE s a d v = 0) : Rel (rSet d a (addM (s.bal d a) v) l) (mintS s a d v) ∧ addM (s.bal d a) v = s.bal d a + v := by
  have hle := h.le d a
  have ho : s.sup d + v ≤ 18446744073709551615 := by
    unfold mintE at hE
    split at hE
    · split at hE
      · cases hE
      · rename_i ho; unfold overA at ho; simp at ho; omega
    · rename_i hc; exact absurd hE hc
  have ha : addM (s.bal d a) v = s.bal d a + v := by unfold addM; omega
  refine ⟨?_, ha⟩
  have e : s.sup d - s.bal d a + addM (s.bal d a) v = s.sup d + v := by omega
  have := h.set d a (v := addM (s.bal d a) v) (by omega)
  rw [e] at this
  unfold mintS
  rw [if_pos hE]
  exact this
theorem Rel.burn {l : List Rw} {s : BkS} (h : Rel l s) {a d : List UInt8} {v : Nat} (hE : burnE s a d v = 0) : Rel (rSet d a (subM (s.bal d a) v) l) (burnS s a d v) ∧ v ≤ s.bal d a := by
  have hle := h.le d a
  have hu := h.u64 d
  have ho : v ≤ s.bal d a := by
    unfold burnE at hE
    split at hE
    · split at hE
      · cases hE
      · omega
    · rename_i hc; exact absurd hE hc
  have ha : subM (s.bal d a) v = s.bal d a - v := by unfold subM; omega
  have hb : subM (s.sup d) v = s.sup d - v := by unfold subM; omega
  refine ⟨?_, ho⟩
  have e : s.sup d - s.bal d a + subM (s.bal d a) v = subM (s.sup d) v := by omega
  have := h.set d a (v := subM (s.bal d a) v) (by omega)
  rw [e] at this
  unfold burnS
  rw [if_pos hE]
  exact this
/-- what a Send has taken, before it gives -/
def midS (s : BkS) (a d : List UInt8) (v : Nat) : BkS := ⟨upd2 s.bal d a (subM (s.bal d a) v), upd1 s.sup d (s.sup d - v)⟩
theorem Rel.mid {l : List Rw} {s : BkS} (h : Rel l s) {a c d : List UInt8} {v : Nat} (hE : sendE s a c d v = 0) : Rel (rSet d a (subM (s.bal d a) v) l) (midS s a d v) ∧ v ≤ s.bal d a := by
  have hle := h.le d a
  have hu := h.u64 d
  have ho : v ≤ s.bal d a := by
    unfold sendE at hE
    split at hE
    · split at hE
      · cases hE
      · omega
    · rename_i hc; exact absurd hE hc
  have ha : subM (s.bal d a) v = s.bal d a - v := by unfold subM; omega
  refine ⟨?_, ho⟩
  have e : s.sup d - s.bal d a + subM (s.bal d a) v = s.sup d - v := by omega
  have := h.set d a (v := subM (s.bal d a) v) (by omega)
  rw [e] at this
  exact this
theorem Rel.send {l : List Rw} {s : BkS} (hs : ∀ d a, s.bal d a ≤ s.sup d) (hu : ∀ d, s.sup d < 18446744073709551616) {a c d : List UInt8} {v : Nat} (h : Rel l (midS s a d v)) (hv : v ≤ s.bal d a) (hE : sendE s a c d v = 0) :
    Rel (rSet d c (addM ((midS s a d v).bal d c) v) l) (sendS s a c d v) := by
  have hle := h.le d c
  have h1 := hs d a
  have h2 := hu d
  have hm : (midS s a d v).sup d = s.sup d - v := by unfold midS upd1; simp
  rw [hm] at hle
  have ha : addM ((midS s a d v).bal d c) v = (midS s a d v).bal d c + v := by unfold addM; omega
  have e : (midS s a d v).sup d - (midS s a d v).bal d c + addM ((midS s a d v).bal d c) v = s.sup d := by omega
  have := h.set d c (v := addM ((midS s a d v).bal d c) v) (by omega)
  rw [e] at this
  refine this.cong (fun d' a' => ?_) (fun d' => ?_)
  · unfold sendS
    rw [if_pos hE]
    rfl
  · unfold sendS
    rw [if_pos hE]
    show upd1 (midS s a d v).sup d (s.sup d) d' = s.sup d'
    unfold midS upd1
    simp only
    split
    · rename_i e; rw [e]
    · rfl
/-- prefix sums, for the loops -/
theorem rSup_take (d : List UInt8) {l : List Rw} {k : Nat} {r : Rw} (h : l[k]? = some r) : rSup d (l.take (k + 1)) = rSup d (l.take k) + (if r.den == d then r.n else 0) := by
  obtain ⟨hk, rfl⟩ := List.getElem?_eq_some_iff.1 h
  rw [List.take_succ_eq_append_getElem hk, rSup_app]
  simp [rSup]
theorem rSup_take_le (d : List UInt8) (l : List Rw) (k : Nat) : rSup d (l.take k) ≤ rSup d l := by
  have h := rSup_app d (l.take k) (l.drop k)
  rw [List.take_append_drop] at h
  omega
theorem rKeep_take (d a : List UInt8) {l : List Rw} {k : Nat} {r : Rw} (h : l[k]? = some r) : rKeep d a (l.take (k + 1)) = rKeep d a (l.take k) ++ (if hitR d a r then [] else [r]) := by
  obtain ⟨hk, rfl⟩ := List.getElem?_eq_some_iff.1 h
  unfold rKeep
  rw [List.take_succ_eq_append_getElem hk, List.filter_append]
  congr 1
  rw [List.filter_cons, List.filter_nil]
  rcases hitR d a l[k] <;> rfl
theorem rKeep_len (d a : List UInt8) (l : List Rw) : (rKeep d a l).length ≤ l.length := List.length_filter_le _ _
theorem rBal_skip {d a : List UInt8} {l : List Rw} {k : Nat} (h : ∀ i r, i < k → l[i]? = some r → hitR d a r = false) : rBal d a l = rBal d a (l.drop k) := by
  have e := List.take_append_drop k l
  have hn : ∀ r ∈ l.take k, hitR d a r = false := by
    intro r hr
    obtain ⟨i, hi⟩ := List.mem_iff_getElem?.1 hr
    rw [List.getElem?_take] at hi
    split at hi
    · rename_i hik; exact h i r hik hi
    · cases hi
  have := rBal_none hn (l.drop k)
  rw [e] at this
  exact this
theorem rBal_at {d a : List UInt8} {l : List Rw} {k : Nat} {r : Rw} (h : l[k]? = some r) (hr : hitR d a r = true) : rBal d a (l.drop k) = r.n := by
  obtain ⟨hk, rfl⟩ := List.getElem?_eq_some_iff.1 h
  rw [List.drop_eq_getElem_cons hk, rBal, if_pos hr]
theorem rBal_next {d a : List UInt8} {l : List Rw} {k : Nat} {r : Rw} (h : l[k]? = some r) (hr : hitR d a r = false) : rBal d a (l.drop k) = rBal d a (l.drop (k + 1)) := by
  obtain ⟨hk, rfl⟩ := List.getElem?_eq_some_iff.1 h
  rw [List.drop_eq_getElem_cons hk, rBal, if_neg (by rw [hr]; decide)]
end Go.Proofs.Ytcldbipipehedaa
