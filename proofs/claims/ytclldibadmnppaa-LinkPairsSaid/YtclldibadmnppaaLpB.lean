/-
  Ends of two chains and all that ever stood there, in memory (voussoirlaw17.Play). No walk here.
-/
import Derived.Test.YtclldibadmnppaaLpA
import Derived.Test.YtclldibadmnppaaCod5
import Derived.Laws.OwnMore
namespace Go.Proofs.Ytclldibadmnppaa
open Go.RowKit
def lnV (l : Ln) : List Value := [.int .i64 (l.st : Nat), .int .u64 (l.cl : Nat), .int .u64 (l.pe : Nat), .int .u64 (l.pc : Nat)]
def flatL : List Ln → List Value
  | [] => []
  | x :: l => lnV x ++ flatL l
theorem flatL_len (l : List Ln) : (flatL l).length = l.length * 4 := by
  induction l with
  | nil => rfl
  | cons x l ih => simp only [flatL, List.length_append, ih, List.length_cons, lnV]; simp; omega
theorem flatL_app (l r : List Ln) : flatL (l ++ r) = flatL l ++ flatL r := by
  induction l with
  | nil => rfl
  | cons x l ih => simp only [List.cons_append, flatL, ih, List.append_assoc]
theorem flatL_one (l : List Ln) : ∀ u ∈ flatL l, u.oneCell' = true := by
  induction l with
  | nil => intro u h; cases h
  | cons x l ih =>
    intro u h
    rcases List.mem_append.1 h with h | h
    · simp only [lnV, List.mem_cons, List.not_mem_nil, or_false] at h
      rcases h with rfl | rfl | rfl | rfl <;> rfl
    · exact ih u h
theorem flatL_at {l : List Ln} {i : Nat} {x : Ln} (h : l[i]? = some x) {j : Nat} {u : Value} (hj : (lnV x)[j]? = some u) : (flatL l)[i * 4 + j]? = some u := by
  induction l generalizing i with
  | nil => cases h
  | cons y l ih =>
    have hj4 : j < 4 := (List.getElem?_eq_some_iff.1 hj).1
    cases i with
    | zero =>
      simp at h; subst h
      rw [flatL, List.getElem?_append_left (by simp [lnV]; omega), Nat.zero_mul, Nat.zero_add]
      exact hj
    | succ i =>
      rw [flatL, List.getElem?_append_right (by simp [lnV]; omega), show (i + 1) * 4 + j - (lnV y).length = i * 4 + j by simp [lnV]; omega]
      exact ih (by simpa using h)
theorem flatL_set (l : List Ln) (i : Nat) (x : Ln) (h : i < l.length) :
    ((((flatL l).set (i * 4) (.int .i64 (x.st : Nat))).set (i * 4 + 1) (.int .u64 (x.cl : Nat))).set (i * 4 + 2) (.int .u64 (x.pe : Nat))).set (i * 4 + 3) (.int .u64 (x.pc : Nat)) = flatL (l.set i x) := by
  induction l generalizing i with
  | nil => cases h
  | cons y l ih =>
    cases i with
    | zero => rfl
    | succ i =>
      rw [List.set_cons_succ, flatL, flatL, ← ih i (by simpa using h), show (i + 1) * 4 = i * 4 + 1 + 1 + 1 + 1 by omega]
      rfl
/-- a history, as a slice -/
def HV (w0 w : World) (v : Value) (h : List Ln) : Prop := w.ownsRow w0.heap.size 36 4 v h.length (flatL h) ∧ 0 < h.length ∧ (h.length = 1 → ∃ g, v = .slice (some ⟨g, 0, none⟩) 1 1)
/-- two slices do not lie in one block -/
def Apart (u v : Value) : Prop := ∀ k, u.ownBlock = some k → v.ownBlock ≠ some k
theorem Apart.symm {u v : Value} (h : Apart u v) : Apart v u := fun k h1 h2 => h k h2 h1
structure Bdy (w0 w : World) (E V : Nat → Value) (B : Nat → List Value) (x : Nat → List Ln) (s : His) : Prop where
  ends : ∀ c, c < 2 → w.ownsRow w0.heap.size 36 4 (E c) (x c).length (flatL (x c))
  was : ∀ c, c < 2 → w.ownsRow w0.heap.size 25 1 (V c) (s c).length (B c)
  his : ∀ (c i : Nat) (h : List Ln), c < 2 → (s c)[i]? = some h → ∃ v, (B c)[i]? = some v ∧ HV w0 w v h ∧ ∀ d, d < 2 → Apart v (E d)
  ne : ∀ c, c < 2 → Apart (E c) (E (1 - c))
  nv : ∀ c, c < 2 → Apart (V c) (V (1 - c))
theorem own_blk {w : World} {base : Nat} {e : TypeId} {size : Nat} {v : Value} {n : Nat} {xs : List Value} (h : w.ownsRow base e size v n xs) {k : Nat} (hk : v.ownBlock = some k) : ∃ cur, w.heap[k]? = some (.cells cur e (0, 0)) := by
  rcases h.2 with ⟨rfl, -⟩ | ⟨g, cap, cur, rfl, hb, hgg, rest⟩
  · simp [Value.ownBlock] at hk
  · simp [Value.ownBlock] at hk
    subst hk
    exact ⟨cur, hgg⟩
theorem own_apart {w : World} {b1 b2 : Nat} {e1 e2 : TypeId} {s1 s2 : Nat} {v1 v2 : Value} {n1 n2 : Nat} {x1 x2 : List Value} (h : w.ownsRow b1 e1 s1 v1 n1 x1) (k : w.ownsRow b2 e2 s2 v2 n2 x2) (he : e1 ≠ e2) : Apart v1 v2 := by
  intro q h1 h2
  obtain ⟨c1, p1⟩ := own_blk h h1
  obtain ⟨c2, p2⟩ := own_blk k h2
  rw [p1] at p2
  simp at p2
  exact he p2.2
theorem typ_ne : (36 : TypeId) ≠ 25 := by decide
variable {w0 w w' : World} {E V : Nat → Value} {B : Nat → List Value} {x : Nat → List Ln} {s : His}
theorem HV.keepS {S : Nat → Prop} {v : Value} {h : List Ln} (hv : HV w0 w v h) (k : Keeps S w w') (hS : ∀ j, v.ownBlock = some j → ¬ S j) : HV w0 w' v h := ⟨k.owns hv.1 hS, hv.2⟩
theorem Bdy.keepS {S : Nat → Prop} (h : Bdy w0 w E V B x s) (k : Keeps S w w') (hS : ∀ j c T, w.heap[j]? = some (.cells c T (0, 0)) → (T = 36 ∨ T = 25) → ¬ S j) : Bdy w0 w' E V B x s := by
  refine ⟨fun c hc => k.owns (h.ends c hc) (fun j hj => ?_), fun c hc => k.owns (h.was c hc) (fun j hj => ?_), fun c i q hc hq => ?_, h.ne, h.nv⟩
  · obtain ⟨cur, p⟩ := own_blk (h.ends c hc) hj
    exact hS j _ _ p (.inl rfl)
  · obtain ⟨cur, p⟩ := own_blk (h.was c hc) hj
    exact hS j _ _ p (.inr rfl)
  · obtain ⟨v, h1, h2, h3⟩ := h.his c i q hc hq
    refine ⟨v, h1, h2.keepS k (fun j hj => ?_), h3⟩
    obtain ⟨cur, p⟩ := own_blk h2.1 hj
    exact hS j _ _ p (.inl rfl)
theorem Bdy.keep (h : Bdy w0 w E V B x s) (k : New w w') : Bdy w0 w' E V B x s := h.keepS k (fun _ _ _ _ _ h => h)
theorem Bdy.drew (h : Bdy w0 w E V B x s) : Bdy w0 w.drew E V B x s := ⟨h.ends, h.was, h.his, h.ne, h.nv⟩
/-- a store into a block of another type -/
theorem Bdy.stored (h : Bdy w0 w E V B x s) {P : Nat} {cs : Array Value} {T : TypeId} {f : Nat × Nat} (p : w.heap[P]? = some (.cells cs T f)) (h1 : T ≠ 36) (h2 : T ≠ 25) (k : Keeps (fun k => k = P) w w') : Bdy w0 w' E V B x s := by
  refine h.keepS k ?_
  intro j c T' q hT e
  rw [show j = P from e, p] at q
  simp at q
  rcases hT with hT | hT
  · exact h1 (q.2.1.trans hT)
  · exact h2 (q.2.1.trans hT)
theorem one_minus {c d : Nat} (hc : c < 2) (hd : d < 2) (h : d ≠ c) : d = 1 - c := by omega
/-- an end more -/
theorem Bdy.addEnd (h : Bdy w0 w E V B x s) {c : Nat} (hc : c < 2) (l : Ln) {v : Value} (hown : w'.ownsRow w0.heap.size 36 4 v ((x c).length + 1) (flatL (x c) ++ lnV l)) (hg : w.grownBy w' (E c).ownBlock)
    (hb : v.ownBlock = (E c).ownBlock ∨ v.ownBlock = some w.heap.size ∧ w.heap.size < w'.heap.size) : Bdy w0 w' (upd E c v) V B (upd x c (x c ++ [l])) s := by
  have K : Keeps (fun k => (E c).ownBlock = some k) w w' := (Keeps.refl _ w).grown hg (fun k hk => .inl hk)
  have far : ∀ u : Value, (∀ k, u.ownBlock = some k → k < w.heap.size) → Apart u (E c) → Apart u v := by
    intro u hu ha k h1 h2
    rcases hb with hb | ⟨hb, -⟩
    · rw [hb] at h2; exact ha k h1 h2
    · rw [hb] at h2
      injection h2 with h2
      have := hu k h1
      omega
  have lt : ∀ {e size u n xs}, w.ownsRow w0.heap.size e size u n xs → ∀ k, u.ownBlock = some k → k < w.heap.size := fun ho k hk => (World.ownsRow.lt ho k hk).2
  refine ⟨fun d hd => ?_, fun d hd => K.owns (h.was d hd) ?_, fun d i q hd hq => ?_, fun d hd => ?_, h.nv⟩
  · by_cases e : d = c
    · subst e
      rw [upd_at, upd_at, flatL_app, List.length_append]
      simpa [flatL] using hown
    · rw [upd_ne _ _ e, upd_ne _ _ e]
      refine K.owns (h.ends d hd) (fun k h1 h2 => ?_)
      obtain rfl := one_minus hc hd e
      exact h.ne c hc k h2 h1
  · exact fun k h1 h2 => own_apart (h.ends c hc) (h.was d hd) typ_ne k h2 h1
  · obtain ⟨u, h1, h2, h3⟩ := h.his d i q hd hq
    refine ⟨u, h1, h2.keepS K (fun j hj e => h3 c hc j hj e), fun d2 hd2 => ?_⟩
    by_cases e : d2 = c
    · subst e
      rw [upd_at]
      exact far u (lt h2.1) (h3 d2 hd2)
    · rw [upd_ne _ _ e]; exact h3 d2 hd2
  · by_cases e : d = c
    · subst e
      rw [upd_at, upd_ne _ _ (by omega)]
      exact (far _ (lt (h.ends (1 - d) (by omega))) (h.ne d hd).symm).symm
    · obtain rfl := one_minus hc hd e
      rw [show 1 - (1 - c) = c by omega, upd_at, upd_ne _ _ (by omega)]
      exact far _ (lt (h.ends (1 - c) (by omega))) (h.ne c hc).symm
/-- a history more -/
theorem Bdy.addWas (h : Bdy w0 w E V B x s) {c : Nat} (hc : c < 2) (l : Ln) {u v : Value} (hu : HV w0 w u [l]) (hu2 : ∀ d, d < 2 → Apart u (E d))
    (hown : w'.ownsRow w0.heap.size 25 1 v ((s c).length + 1) (B c ++ [u])) (hg : w.grownBy w' (V c).ownBlock)
    (hb : v.ownBlock = (V c).ownBlock ∨ v.ownBlock = some w.heap.size ∧ w.heap.size < w'.heap.size) : Bdy w0 w' E (upd V c v) (upd B c (B c ++ [u])) x (newH s c l) := by
  have K : Keeps (fun k => (V c).ownBlock = some k) w w' := (Keeps.refl _ w).grown hg (fun k hk => .inl hk)
  have far : ∀ u : Value, (∀ k, u.ownBlock = some k → k < w.heap.size) → Apart u (V c) → Apart u v := by
    intro u hu ha k h1 h2
    rcases hb with hb | ⟨hb, -⟩
    · rw [hb] at h2; exact ha k h1 h2
    · rw [hb] at h2
      injection h2 with h2
      have := hu k h1
      omega
  have lt : ∀ {e size u n xs}, w.ownsRow w0.heap.size e size u n xs → ∀ k, u.ownBlock = some k → k < w.heap.size := fun ho k hk => (World.ownsRow.lt ho k hk).2
  have kh : ∀ {q r}, HV w0 w q r → HV w0 w' q r := fun h2 => h2.keepS K (fun j h3 h4 => own_apart h2.1 (h.was c hc) typ_ne j h3 h4)
  refine ⟨fun d hd => K.owns (h.ends d hd) ?_, fun d hd => ?_, fun d i q hd hq => ?_, h.ne, fun d hd => ?_⟩
  · exact fun k h1 h2 => own_apart (h.ends d hd) (h.was c hc) typ_ne k h1 h2
  · unfold newH
    by_cases e : d = c
    · subst e
      rw [upd_at, upd_at, upd_at, List.length_append]
      simpa using hown
    · rw [upd_ne _ _ e, upd_ne _ _ e, upd_ne _ _ e]
      refine K.owns (h.was d hd) (fun k h1 h2 => ?_)
      obtain rfl := one_minus hc hd e
      exact h.nv c hc k h2 h1
  · unfold newH at hq
    by_cases e : d = c
    · subst e
      have hl : (B d).length = (s d).length := by have := (h.was d hd).1; omega
      rw [upd_at] at hq ⊢
      by_cases e2 : i < (s d).length
      · rw [List.getElem?_append_left e2] at hq
        obtain ⟨t, h1, h2, h3⟩ := h.his d i q hd hq
        exact ⟨t, by rw [List.getElem?_append_left (by omega)]; exact h1, kh h2, h3⟩
      · rw [List.getElem?_append_right (by omega)] at hq
        have e3 : i - (s d).length = 0 := by
          have := (List.getElem?_eq_some_iff.1 hq).1
          simp at this; omega
        rw [e3] at hq
        simp at hq
        subst hq
        refine ⟨u, ?_, kh hu, hu2⟩
        rw [List.getElem?_append_right (by omega), hl, e3]; rfl
    · rw [upd_ne _ _ e] at hq ⊢
      obtain ⟨t, h1, h2, h3⟩ := h.his d i q hd hq
      exact ⟨t, h1, kh h2, h3⟩
  · by_cases e : d = c
    · subst e
      rw [upd_at, upd_ne _ _ (by omega)]
      exact (far _ (lt (h.was (1 - d) (by omega))) (h.nv d hd).symm).symm
    · obtain rfl := one_minus hc hd e
      rw [show 1 - (1 - c) = c by omega, upd_at, upd_ne _ _ (by omega)]
      exact far _ (lt (h.was (1 - c) (by omega))) (h.nv c hc).symm
/-- an end turned -/
theorem Bdy.setEnd (h : Bdy w0 w E V B x s) {c : Nat} (hc : c < 2) (l : Ln) {g m cap n : Nat} (hE : E c = .slice (some ⟨g, 0, none⟩) m cap) (hn : n < (x c).length) :
    Bdy w0 ((((w.setCell ⟨g, n * 4, none⟩ (.int .i64 (l.st : Nat))).setCell ⟨g, n * 4 + 1, none⟩ (.int .u64 (l.cl : Nat))).setCell ⟨g, n * 4 + 2, none⟩ (.int .u64 (l.pe : Nat))).setCell ⟨g, n * 4 + 3, none⟩ (.int .u64 (l.pc : Nat)))
      E V B (upd x c ((x c).set n l)) s := by
  have hm : m = (x c).length := by
    rcases (h.ends c hc).2 with ⟨e, -⟩ | ⟨g2, c2, cur, e, -⟩
    · rw [hE] at e; cases e
    · rw [hE] at e; cases e; rfl
  have K : Keeps (fun k => k = g) w ((((w.setCell ⟨g, n * 4, none⟩ (.int .i64 (l.st : Nat))).setCell ⟨g, n * 4 + 1, none⟩ (.int .u64 (l.cl : Nat))).setCell ⟨g, n * 4 + 2, none⟩ (.int .u64 (l.pe : Nat))).setCell ⟨g, n * 4 + 3, none⟩ (.int .u64 (l.pc : Nat))) :=
    ((((Keeps.refl (fun k => k = g) w).set1 _ _).set1 _ _).set1 _ _).set1 _ _
  have hg : (E c).ownBlock = some g := by rw [hE]; rfl
  have h0 := h.ends c hc
  rw [hE, hm] at h0
  have hr := (World.ownsRow.stored (World.ownsRow.stored (World.ownsRow.stored (World.ownsRow.stored h0 (n * 4) (.int .i64 (l.st : Nat))).1 (n * 4 + 1) (.int .u64 (l.cl : Nat))).1 (n * 4 + 2) (.int .u64 (l.pe : Nat))).1 (n * 4 + 3) (.int .u64 (l.pc : Nat))).1
  rw [flatL_set _ _ _ hn] at hr
  refine ⟨fun d hd => ?_, fun d hd => K.owns (h.was d hd) ?_, fun d i q hd hq => ?_, h.ne, h.nv⟩
  · by_cases e : d = c
    · subst e
      rw [upd_at, hE, hm, List.length_set]
      exact hr
    · rw [upd_ne _ _ e]
      refine K.owns (h.ends d hd) (fun k h1 h2 => ?_)
      obtain rfl := one_minus hc hd e
      subst h2
      exact h.ne c hc k hg h1
  · intro k h1 h2
    subst h2
    exact own_apart (h.ends c hc) (h.was d hd) typ_ne k hg h1
  · obtain ⟨u, h1, h2, h3⟩ := h.his d i q hd hq
    exact ⟨u, h1, h2.keepS K (fun j hj e => h3 c hc j hj (by rw [hg, e])), h3⟩
/-- a history turned -/
theorem Bdy.setWas (h : Bdy w0 w E V B x s) {c : Nat} (hc : c < 2) (l : Ln) {g m cap n : Nat} {k : List Ln} (hV : V c = .slice (some ⟨g, 0, none⟩) m cap) (hk : (s c)[n]? = some k) {u : Value} (hu : HV w0 w u (k ++ [l])) (hu2 : ∀ d, d < 2 → Apart u (E d)) :
    Bdy w0 (w.setCell ⟨g, n, none⟩ u) E V (upd B c ((B c).set n u)) x (setH s c n k l) := by
  have hm : m = (s c).length := by
    rcases (h.was c hc).2 with ⟨e, -⟩ | ⟨g2, c2, cur, e, -⟩
    · rw [hV] at e; cases e
    · rw [hV] at e; cases e; rfl
  have K : Keeps (fun k => k = g) w (w.setCell ⟨g, n, none⟩ u) := (Keeps.refl (fun k => k = g) w).set1 _ _
  have hg : (V c).ownBlock = some g := by rw [hV]; rfl
  have h0 := h.was c hc
  rw [hV, hm] at h0
  have hr := (World.ownsRow.stored h0 n u).1
  have kh : ∀ {q r}, HV w0 w q r → HV w0 (w.setCell ⟨g, n, none⟩ u) q r := fun h2 => h2.keepS K (fun j h3 h4 => own_apart h2.1 (h.was c hc) typ_ne j h3 (by rw [hg, h4]))
  have hl : (B c).length = (s c).length := by have := (h.was c hc).1; omega
  have hn : n < (s c).length := (List.getElem?_eq_some_iff.1 hk).1
  refine ⟨fun d hd => K.owns (h.ends d hd) ?_, fun d hd => ?_, fun d i q hd hq => ?_, h.ne, h.nv⟩
  · intro j h1 h2
    exact own_apart (h.ends d hd) (h.was c hc) typ_ne j h1 (by rw [hg, h2])
  · unfold setH
    by_cases e : d = c
    · subst e
      rw [upd_at, upd_at, hV, hm, List.length_set]
      exact hr
    · rw [upd_ne _ _ e, upd_ne _ _ e]
      refine K.owns (h.was d hd) (fun k h1 h2 => ?_)
      obtain rfl := one_minus hc hd e
      subst h2
      exact h.nv c hc k hg h1
  · unfold setH at hq
    by_cases e : d = c
    · subst e
      rw [upd_at] at hq ⊢
      by_cases e2 : i = n
      · subst e2
        rw [List.getElem?_set_self hn] at hq
        injection hq with hq
        subst hq
        exact ⟨u, by rw [List.getElem?_set_self (by omega)], kh hu, hu2⟩
      · rw [List.getElem?_set_ne (Ne.symm e2)] at hq
        obtain ⟨t, h1, h2, h3⟩ := h.his d i q hd hq
        exact ⟨t, by rw [List.getElem?_set_ne (Ne.symm e2)]; exact h1, kh h2, h3⟩
    · rw [upd_ne _ _ e] at hq ⊢
      obtain ⟨t, h1, h2, h3⟩ := h.his d i q hd hq
      exact ⟨t, h1, kh h2, h3⟩
/-- the block of the Play -/
def plB (w : World) (P : Nat) (E V : Nat → Value) : Prop := w.heap[P]? = some (.cells #[E 0, E 1, V 0, V 1] 30 (0, 0))
theorem plB.keepS {S : Nat → Prop} {P : Nat} (h : plB w P E V) (k : Keeps S w w') (hS : ¬ S P) : plB w' P E V := k.kept h hS
theorem plB.cell {P : Nat} (h : plB w P E V) {c : Nat} (hc : c < 2) : w.cell? ⟨P, c, none⟩ = some (E c) ∧ w.cell? ⟨P, 2 + c, none⟩ = some (V c) ∧ w.frozen? ⟨P, c, none⟩ = false ∧ w.frozen? ⟨P, 2 + c, none⟩ = false := by
  rcases (by omega : c = 0 ∨ c = 1) with rfl | rfl <;> (refine ⟨?_, ?_, frozen_blk h _, frozen_blk h _⟩ <;> rw [cell_blk h] <;> rfl)
theorem plB.setE {P : Nat} (h : plB w P E V) {c : Nat} (hc : c < 2) (v : Value) : plB (w.setCell ⟨P, c, none⟩ v) P (upd E c v) V := by
  rcases (by omega : c = 0 ∨ c = 1) with rfl | rfl <;> exact (heap_setCell_blk h _ v).trans (by simp [upd])
theorem plB.setV {P : Nat} (h : plB w P E V) {c : Nat} (hc : c < 2) (v : Value) : plB (w.setCell ⟨P, 2 + c, none⟩ v) P E (upd V c v) := by
  rcases (by omega : c = 0 ∨ c = 1) with rfl | rfl <;> exact (heap_setCell_blk h _ v).trans (by simp [upd])
/-- a block of rows is not the Play's -/
theorem plB.far {P : Nat} (h : plB w P E V) {base : Nat} {e : TypeId} {size : Nat} {v : Value} {n : Nat} {xs : List Value} (ho : w.ownsRow base e size v n xs) (he : e ≠ 30) : v.ownBlock ≠ some P := by
  intro hk
  obtain ⟨c, p⟩ := own_blk ho hk
  rw [show w.heap[P]? = _ from h] at p
  simp at p
  exact he p.2.symm
structure Pla (w0 w : World) (P : Nat) (E V : Nat → Value) (B : Nat → List Value) (x : Nat → List Ln) (s : His) : Prop where
  blk : plB w P E V
  ge : w0.heap.size ≤ P
  bdy : Bdy w0 w E V B x s
  new : New w0 w
def ends (s : His) : Nat → List Ln := fun c => (s c).map lastL
def Pl (w0 w : World) (P : Nat) (s : His) : Prop := ∃ E V B, Pla w0 w P E V B (ends s) s
theorem Pl.new {P : Nat} (h : Pl w0 w P s) : New w0 w := by obtain ⟨E, V, B, h⟩ := h; exact h.new
theorem Pla.keep {P : Nat} (h : Pla w0 w P E V B x s) (k : New w w') : Pla w0 w' P E V B x s := ⟨h.blk.keepS k (fun h => h), h.ge, h.bdy.keep k, h.new.then k (fun _ h => h.elim)⟩
theorem Pl.keep {P : Nat} (h : Pl w0 w P s) (k : New w w') : Pl w0 w' P s := by obtain ⟨E, V, B, h⟩ := h; exact ⟨E, V, B, h.keep k⟩
theorem Pla.drew {P : Nat} (h : Pla w0 w P E V B x s) : Pla w0 w.drew P E V B x s := ⟨h.blk, h.ge, h.bdy.drew, h.new.drew⟩
theorem Pl.drew {P : Nat} (h : Pl w0 w P s) : Pl w0 w.drew P s := by obtain ⟨E, V, B, h⟩ := h; exact ⟨E, V, B, h.drew⟩
theorem ends_new (s : His) (c : Nat) (l : Ln) : upd (ends s) c (ends s c ++ [l]) = ends (newH s c l) := by
  funext d
  unfold ends newH upd
  split
  · rename_i h; subst h; rw [List.map_append]; rfl
  · rfl
theorem lastL_snoc (k : List Ln) (l : Ln) : lastL (k ++ [l]) = l := by unfold lastL; simp
theorem ends_set (s : His) (c n : Nat) (k : List Ln) (l : Ln) : upd (ends s) c ((ends s c).set n l) = ends (setH s c n k l) := by
  funext d
  unfold ends setH upd
  split
  · rename_i h; subst h; rw [List.map_set, lastL_snoc]
  · rfl
theorem ends_at {s : His} {c n : Nat} {k : List Ln} (h : (s c)[n]? = some k) : (ends s c)[n]? = some (lastL k) := by
  unfold ends; rw [List.getElem?_map, h]; rfl
theorem ends_len (s : His) (c : Nat) : (ends s c).length = (s c).length := by unfold ends; simp
end Go.Proofs.Ytclldibadmnppaa
