/-
  PLAIN: all balances of a money together are its supply, whatever is done. No walk here.
-/
import Derived.Test.YtcldbipipehedaaHol
import Derived.Test.YtcldbipipehedaaBDo
import Derived.Test.YtcldbipipehedaaKpF
namespace Go.Proofs.Ytcldbipipehedaa
/-- all balances of a money together are its supply -/
def SumI (s : BkS) : Prop := ∀ d, ∃ l : List (List UInt8), l.Nodup ∧ (∀ a, s.bal d a ≠ 0 → a ∈ l ∧ a.length ≤ 32) ∧ (l.map (s.bal d)).sum = s.sup d ∧ s.sup d < 18446744073709551616
theorem sumI_empty : SumI emptyB := fun _ => ⟨[], List.nodup_nil, fun _ h => absurd rfl h, rfl, by show (0 : Nat) < _; decide⟩
theorem sum_perm {l r : List Nat} (h : l.Perm r) : l.sum = r.sum := by
  induction h with
  | nil => rfl
  | cons x _ ih => simp [ih]
  | swap x y l => simp; omega
  | trans _ _ h1 h2 => exact h1.trans h2
theorem sum_upd {f f' : List UInt8 → Nat} {a : List UInt8} : ∀ {l : List (List UInt8)}, l.Nodup → a ∈ l → (∀ b, b ≠ a → f' b = f b) → (l.map f').sum + f a = (l.map f).sum + f' a
  | [], _, h, _ => by cases h
  | x :: l, hn, hm, he => by
    obtain ⟨h1, h2⟩ := List.nodup_cons.1 hn
    by_cases hx : x = a
    · subst hx
      have : l.map f' = l.map f := List.map_congr_left fun b hb => he b (fun e => h1 (e ▸ hb))
      simp only [List.map_cons, List.sum_cons, this]
      omega
    · have hm2 : a ∈ l := by
        rcases List.mem_cons.1 hm with e | e
        · exact absurd e.symm hx
        · exact e
      have := sum_upd h2 hm2 he
      simp only [List.map_cons, List.sum_cons, he x hx]
      omega
theorem sum_mem {f : List UInt8 → Nat} {a : List UInt8} : ∀ {l : List (List UInt8)}, a ∈ l → f a ≤ (l.map f).sum
  | [], h => by cases h
  | x :: l, h => by
    simp only [List.map_cons, List.sum_cons]
    rcases List.mem_cons.1 h with rfl | e
    · omega
    · have := sum_mem (f := f) e
      omega
theorem sum_two {f : List UInt8 → Nat} {a c : List UInt8} (hac : a ≠ c) : ∀ {l : List (List UInt8)}, a ∈ l → c ∈ l → f a + f c ≤ (l.map f).sum
  | [], h, _ => by cases h
  | x :: l, h, k => by
    simp only [List.map_cons, List.sum_cons]
    rcases List.mem_cons.1 h with rfl | e
    · rcases List.mem_cons.1 k with rfl | e2
      · exact absurd rfl hac
      · have := sum_mem (f := f) e2
        omega
    · rcases List.mem_cons.1 k with rfl | e2
      · have := sum_mem (f := f) e
        omega
      · have := sum_two (f := f) hac e e2
        omega
theorem sum_filter {f : List UInt8 → Nat} : ∀ l : List (List UInt8), ((l.filter fun a => decide (f a ≠ 0)).map f).sum = (l.map f).sum
  | [] => rfl
  | x :: l => by
    have ih := sum_filter (f := f) l
    rw [List.filter_cons]
    by_cases h : f x = 0
    · rw [if_neg (by simp [h])]
      simp only [List.map_cons, List.sum_cons, h]
      omega
    · rw [if_pos (by simp [h])]
      simp only [List.map_cons, List.sum_cons]
      omega
/-- with an account that is looked at on the list -/
theorem SumI.with {s : BkS} (h : SumI s) (d a : List UInt8) : ∃ l : List (List UInt8), l.Nodup ∧ a ∈ l ∧ (∀ b, s.bal d b ≠ 0 → b ∈ l ∧ b.length ≤ 32) ∧ (l.map (s.bal d)).sum = s.sup d ∧ s.sup d < 18446744073709551616 := by
  obtain ⟨l, h1, h2, h3, h4⟩ := h d
  by_cases ha : a ∈ l
  · exact ⟨l, h1, ha, h2, h3, h4⟩
  · have h0 : s.bal d a = 0 := Decidable.byContradiction fun hn => ha (h2 a hn).1
    exact ⟨a :: l, List.nodup_cons.2 ⟨ha, h1⟩, by simp, fun b hb => ⟨List.mem_cons_of_mem _ (h2 b hb).1, (h2 b hb).2⟩, by simp [h0, h3], h4⟩
theorem SumI.le {s : BkS} (h : SumI s) (d a : List UInt8) : s.bal d a ≤ s.sup d := by
  obtain ⟨l, h1, ha, h2, h3, h4⟩ := h.with d a
  rw [← h3]; exact sum_mem ha
theorem SumI.two {s : BkS} (h : SumI s) (d : List UInt8) {a c : List UInt8} (hac : a ≠ c) : s.bal d a + s.bal d c ≤ s.sup d := by
  obtain ⟨l, h1, h2, h3, h4⟩ := h d
  rw [← h3]
  by_cases ha : a ∈ l
  · by_cases hc : c ∈ l
    · exact sum_two hac ha hc
    · have h0 : s.bal d c = 0 := Decidable.byContradiction fun hn => hc (h2 c hn).1
      have := sum_mem (f := s.bal d) ha
      omega
  · have h0 : s.bal d a = 0 := Decidable.byContradiction fun hn => ha (h2 a hn).1
    by_cases hc : c ∈ l
    · have := sum_mem (f := s.bal d) hc
      omega
    · have h0 : s.bal d c = 0 := Decidable.byContradiction fun hn => hc (h2 c hn).1
      omega
theorem SumI.hold {s : BkS} (h : SumI s) {d : List UInt8} {r : List (List UInt8)} (hr : HoldL (s.bal d) r) : (r.map (s.bal d)).sum = s.sup d := by
  obtain ⟨l, h1, h2, h3, h4⟩ := h d
  rw [← h3, ← sum_filter l]
  refine sum_perm (List.Perm.map _ ?_)
  refine (List.perm_ext_iff_of_nodup (hold_nodup hr) (h1.filter _)).2 fun a => ?_
  rw [hr.2 a, List.mem_filter, decide_eq_true_eq]
  constructor
  · rintro ⟨-, hf⟩; exact ⟨(h2 a hf).1, hf⟩
  · rintro ⟨-, hf⟩; exact ⟨by have := (h2 a hf).2; unfold maxLen; omega, hf⟩
/-- one balance turned, and the supply by as much -/
theorem SumI.turn {s t : BkS} (h : SumI s) {d a : List UInt8} (ha : a.length ≤ 32) (h1 : ∀ u, u ≠ d → t.sup u = s.sup u ∧ ∀ b, t.bal u b = s.bal u b) (h2 : ∀ b, b ≠ a → t.bal d b = s.bal d b)
    (h3 : t.sup d + s.bal d a = s.sup d + t.bal d a) (h4 : t.sup d < 18446744073709551616) : SumI t := by
  intro u
  by_cases hu : u = d
  · subst hu
    obtain ⟨l, k1, ka, k2, k3, k4⟩ := h.with u a
    refine ⟨l, k1, fun b hb => ?_, ?_, h4⟩
    · by_cases e : b = a
      · rw [e]; exact ⟨ka, ha⟩
      · rw [h2 b e] at hb; exact k2 b hb
    · have := sum_upd (f := s.bal u) (f' := t.bal u) k1 ka h2
      rw [k3] at this
      omega
  · obtain ⟨l, k1, k2, k3, k4⟩ := h u
    obtain ⟨e1, e2⟩ := h1 u hu
    have ef : t.bal u = s.bal u := funext e2
    exact ⟨l, k1, by rw [ef]; exact k2, by rw [ef, e1]; exact k3, by rw [e1]; exact k4⟩
theorem mint_ok {s : BkS} {a d : List UInt8} {v : Nat} (h : mintE s a d v = 0) : s.sup d + v < 18446744073709551616 ∧ a.length ≤ 32 ∧ chkE v d [a] = 0 := by
  unfold mintE at h
  split at h
  · rename_i hc
    split at h
    · cases h
    · rename_i ho
      unfold overA at ho
      simp at ho
      obtain ⟨_, _, _, hx⟩ := chk_zero hc
      exact ⟨by omega, (hx a (by simp)).2, hc⟩
  · rename_i h2; exact absurd h h2
theorem burn_ok2 {s : BkS} {a d : List UInt8} {v : Nat} (h : burnE s a d v = 0) : v ≤ s.bal d a ∧ a.length ≤ 32 ∧ chkE v d [a] = 0 := by
  unfold burnE at h
  split at h
  · rename_i hc
    split at h
    · cases h
    · obtain ⟨_, _, _, hx⟩ := chk_zero hc
      exact ⟨by omega, (hx a (by simp)).2, hc⟩
  · rename_i h2; exact absurd h h2
theorem send_ok2 {s : BkS} {a c d : List UInt8} {v : Nat} (h : sendE s a c d v = 0) : v ≤ s.bal d a ∧ a.length ≤ 32 ∧ c.length ≤ 32 ∧ chkE v d [a, c] = 0 := by
  unfold sendE at h
  split at h
  · rename_i hc
    split at h
    · cases h
    · obtain ⟨_, _, _, hx⟩ := chk_zero hc
      exact ⟨by omega, (hx a (by simp)).2, (hx c (by simp)).2, hc⟩
  · rename_i h2; exact absurd h h2
theorem SumI.mint {s : BkS} (h : SumI s) (a d : List UInt8) (v : Nat) : SumI (mintS s a d v) := by
  by_cases hE : mintE s a d v = 0
  · obtain ⟨h1, h2, -⟩ := mint_ok hE
    have hle := h.le d a
    obtain ⟨q1, q2, q3⟩ := mint_at hE (by omega)
    exact h.turn h2 (fun u hu => mint_far hu) q3 (by rw [q1, q2]; omega) (by rw [q1]; exact h1)
  · rw [mint_no hE]; exact h
theorem SumI.lt {s : BkS} (h : SumI s) (d : List UInt8) : s.sup d < 18446744073709551616 := by
  obtain ⟨_, _, _, _, h4⟩ := h d
  exact h4
theorem SumI.burn {s : BkS} (h : SumI s) (a d : List UInt8) (v : Nat) : SumI (burnS s a d v) := by
  by_cases hE : burnE s a d v = 0
  · obtain ⟨h1, h2, -⟩ := burn_ok2 hE
    have hle := h.le d a
    have hlt := h.lt d
    obtain ⟨q1, q2, q3⟩ := burn_at hE h1 (by omega) (by omega) (by omega)
    exact h.turn h2 (fun u hu => burn_far hu) q3 (by rw [q1, q2]; omega) (by rw [q1]; omega)
  · rw [burn_no hE]; exact h
theorem SumI.send {s : BkS} (h : SumI s) (a c d : List UInt8) (v : Nat) : SumI (sendS s a c d v) := by
  by_cases hE : sendE s a c d v = 0
  · obtain ⟨h1, h2, h3, -⟩ := send_ok2 hE
    have hle := h.le d a
    have hlt := h.lt d
    by_cases hac : a = c
    · subst hac
      intro u
      have e1 := send_sup s a a d v u
      have e2 : (sendS s a a d v).bal u = s.bal u := by
        funext b
        by_cases hu : u = d
        · subst hu; exact send_self h1 (by omega) b
        · exact send_far hu b
      obtain ⟨l, k⟩ := h u
      exact ⟨l, by rw [e1, e2]; exact k⟩
    · have h2b := h.two d hac
      obtain ⟨q1, q2, q3⟩ := send_at hE h1 hac (by omega) (by omega)
      intro u
      by_cases hu : u = d
      · subst hu
        rw [send_sup]
        obtain ⟨l, k1, ka, k2, k3, k4⟩ := h.with u a
        have hc : ∃ l : List (List UInt8), l.Nodup ∧ a ∈ l ∧ c ∈ l ∧ (∀ b, s.bal u b ≠ 0 → b ∈ l ∧ b.length ≤ 32) ∧ (l.map (s.bal u)).sum = s.sup u := by
          by_cases hcl : c ∈ l
          · exact ⟨l, k1, ka, hcl, k2, k3⟩
          · have h0 : s.bal u c = 0 := Decidable.byContradiction fun hn => hcl (k2 c hn).1
            exact ⟨c :: l, List.nodup_cons.2 ⟨hcl, k1⟩, List.mem_cons_of_mem _ ka, by simp, fun b hb => ⟨List.mem_cons_of_mem _ (k2 b hb).1, (k2 b hb).2⟩, by simp [h0, k3]⟩
        obtain ⟨r, r1, ra, rc, r2, r3⟩ := hc
        refine ⟨r, r1, fun b hb => ?_, ?_, k4⟩
        · by_cases e : b = a
          · rw [e]; exact ⟨ra, h2⟩
          · by_cases e2 : b = c
            · rw [e2]; exact ⟨rc, h3⟩
            · rw [q3 b e e2] at hb; exact r2 b hb
        · have s1 := sum_upd (f := s.bal u) (f' := fun b => if b = a then s.bal u a - v else s.bal u b) r1 ra (fun b hb => if_neg hb)
          have s2 := sum_upd (f := fun b => if b = a then s.bal u a - v else s.bal u b) (f' := (sendS s a c u v).bal u) r1 rc (fun b hb => by
            by_cases e : b = a
            · rw [e, q1]; simp
            · rw [q3 b e hb]; simp [e])
          rw [q2] at s2
          simp only [if_neg (Ne.symm hac), if_true] at s1 s2
          omega
      · obtain ⟨l, k⟩ := h u
        have e2 : (sendS s a c d v).bal u = s.bal u := funext fun b => send_far hu b
        exact ⟨l, by rw [send_sup, e2]; exact k⟩
  · rw [send_no hE]; exact h
theorem SumI.does {s : BkS} (h : SumI s) (x : A10) : SumI (dsS s x) := by
  unfold dsS
  split
  · exact h.mint _ _ _
  · split
    · exact h.burn _ _ _
    · exact h.send _ _ _ _
theorem ds_no {s : BkS} {x : A10} (h : ¬ dsE s x = 0) : dsS s x = s := by
  unfold dsE at h; unfold dsS
  by_cases h1 : pk x.what 6 ≤ 1
  · rw [if_pos h1] at h ⊢; exact mint_no h
  · rw [if_neg h1] at h ⊢
    by_cases h2 : pk x.what 6 = 2
    · rw [if_pos h2] at h ⊢; exact burn_no h
    · rw [if_neg h2] at h ⊢; exact send_no h
end Go.Proofs.Ytcldbipipehedaa
