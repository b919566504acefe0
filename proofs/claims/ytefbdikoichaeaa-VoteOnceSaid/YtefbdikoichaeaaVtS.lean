/-
  VOTE, PLAIN: plays of voters: what stays true of them; what is committed stands in one line. No program in sight.
-/
import Derived.Test.YtefbdikoichaeaaVtL
namespace Go.Proofs.Ytefbdikoichaeaa

/-- how many voted -/
def cnt (r : List Bool) : Nat := r.count true
/-- two sets of voters that are great enough share one behind the first f -/
theorem pig : ∀ (r s : List Bool) (f : Nat), r.length = s.length → r.length + f < cnt r + cnt s → ∃ i, f ≤ i ∧ i < r.length ∧ r.getD i false = true ∧ s.getD i false = true := by
  intro r
  induction r with
  | nil => intro s f hl hc; have : s = [] := List.eq_nil_of_length_eq_zero hl.symm; subst this; simp [cnt] at hc
  | cons a r ih =>
    intro s f hl hc
    rcases s with _ | ⟨b, s⟩
    · simp at hl
    have hl' : r.length = s.length := by simpa using hl
    have ca : cnt (a :: r) = cnt r + (if a then 1 else 0) := by simp [cnt, List.count_cons]
    have cb : cnt (b :: s) = cnt s + (if b then 1 else 0) := by simp [cnt, List.count_cons]
    rw [ca, cb] at hc
    simp only [List.length_cons] at hc
    rcases f with _ | f
    · by_cases hab : a = true ∧ b = true
      · exact ⟨0, Nat.le_refl _, by simp, by simp [hab.1], by simp [hab.2]⟩
      · have hlt : r.length + 0 < cnt r + cnt s := by
          rcases a <;> rcases b <;> simp at hab hc ⊢ <;> omega
        obtain ⟨i, _, h2, h3, h4⟩ := ih s 0 hl' hlt
        exact ⟨i + 1, Nat.zero_le _, by simp; omega, by simpa using h3, by simpa using h4⟩
    · have hlt : r.length + f < cnt r + cnt s := by
        rcases a <;> rcases b <;> simp at hc ⊢ <;> omega
      obtain ⟨i, h1, h2, h3, h4⟩ := ih s f hl' hlt
      exact ⟨i + 1, by omega, by simp; omega, by simpa using h3, by simpa using h4⟩

structure Vo where
  voted : Nat
  lock : Nat
instance : Inhabited Vo := ⟨⟨0, 0⟩⟩
/-- a tree, voters, who voted for each block -/
structure Ps where
  l : List Bl
  vs : List Vo
  rows : List (List Bool)
def row (rows : List (List Bool)) (b : Nat) : List Bool := rows.getD b []
def vt (rows : List (List Bool)) (b i : Nat) : Bool := (row rows b).getD i false
def cert (n : Nat) (rows : List (List Bool)) (b : Nat) : Bool := b == 0 || decide (2 * n < 3 * cnt (row rows b))
def vtd (vs : List Vo) (i : Nat) : Nat := (vs.getD i default).voted
def lck (vs : List Vo) (i : Nat) : Nat := (vs.getD i default).lock

/-- one act: nothing; a block on a certified one; a vote -/
inductive Step (n f : Nat) (s : Ps) : Ps → Prop
  | stay : Step n f s s
  | add (on v : Nat) : on < s.l.length → cert n s.rows on = true → vw s.l on < v → U64 v → s.l.length < 256 → Step n f s ⟨addB s.l on v, s.vs, s.rows ++ [List.replicate n false]⟩
  | vote (i b : Nat) : i < n → b < s.l.length → (f ≤ i → mayI s.l (vtd s.vs i) (lck s.vs i : Nat) (b : Nat) = true) →
      Step n f s ⟨s.l, s.vs.set i ⟨max (vtd s.vs i) (vw s.l b), lkN s.l (lck s.vs i) b⟩, s.rows.set b ((row s.rows b).set i true)⟩

structure Inv (n f : Nat) (s : Ps) : Prop where
  wf : WfT s.l
  len : s.rows.length = s.l.length
  nvs : s.vs.length = n
  nrow : ∀ b, b < s.rows.length → (row s.rows b).length = n
  par : ∀ b, b < s.l.length → cert n s.rows (pr s.l b) = true
  lk : ∀ i, i < n → lck s.vs i < s.l.length ∧ cert n s.rows (lck s.vs i) = true ∧ vw s.l (lck s.vs i) ≤ vtd s.vs i
  top : ∀ i, i < n → ∃ c, c < s.l.length ∧ vtd s.vs i ≤ vw s.l c
  low : ∀ i b, f ≤ i → vt s.rows b i = true → b ≠ 0 ∧ b < s.l.length ∧ vw s.l b ≤ vtd s.vs i
  one : ∀ i b c, f ≤ i → vt s.rows b i = true → vt s.rows c i = true → vw s.l b = vw s.l c → b = c
  gp : ∀ i b, f ≤ i → vt s.rows b i = true → vw s.l (pr s.l (pr s.l b)) ≤ vw s.l (lck s.vs i)
  seq : ∀ i b c, f ≤ i → vt s.rows b i = true → vt s.rows c i = true → vw s.l b < vw s.l c → vw s.l (pr s.l (pr s.l b)) ≤ vw s.l (pr s.l c)

theorem vt_lt {rows : List (List Bool)} {b i : Nat} (h : vt rows b i = true) : b < rows.length ∧ i < (row rows b).length := by
  unfold vt at h
  by_cases hi : i < (row rows b).length
  · refine ⟨?_, hi⟩
    by_cases hb : b < rows.length
    · exact hb
    · unfold row at hi
      rw [List.getD_eq_getElem?_getD, List.getElem?_eq_none (by omega)] at hi
      simp at hi
  · rw [List.getD_eq_getElem?_getD, List.getElem?_eq_none (by omega)] at h
    cases h
theorem Inv.vt_lt {n f : Nat} {s : Ps} (h : Inv n f s) {b i : Nat} (hv : vt s.rows b i = true) : i < n := by
  have := Go.Proofs.Ytefbdikoichaeaa.vt_lt hv
  rw [h.nrow b this.1] at this
  exact this.2
theorem row_app (rows : List (List Bool)) (r : List Bool) {b : Nat} (h : b < rows.length) : row (rows ++ [r]) b = row rows b := by simp [row, List.getElem?_append_left h]
theorem row_new (rows : List (List Bool)) (r : List Bool) : row (rows ++ [r]) rows.length = r := by simp [row, List.getD]
theorem row_beyond (rows : List (List Bool)) {b : Nat} (h : rows.length ≤ b) : row rows b = [] := by simp [row, List.getD, List.getElem?_eq_none h]
theorem vt_app (rows : List (List Bool)) (n b i : Nat) : vt (rows ++ [List.replicate n false]) b i = vt rows b i := by
  unfold vt
  by_cases h : b < rows.length
  · rw [row_app _ _ h]
  · by_cases e : b = rows.length
    · subst e
      rw [row_new, row_beyond _ (Nat.le_refl _)]
      by_cases hi : i < n <;> simp [List.getD, hi]
    · rw [row_beyond rows (by omega), row_beyond _ (by simp; omega)]
theorem cert_app {n : Nat} {rows : List (List Bool)} {r : List Bool} {b : Nat} (h : b < rows.length) : cert n (rows ++ [r]) b = cert n rows b := by
  unfold cert; rw [row_app _ _ h]
theorem row_set (rows : List (List Bool)) (b : Nat) (r : List Bool) (hb : b < rows.length) (c : Nat) : row (rows.set b r) c = if c = b then r else row rows c := by
  unfold row
  simp only [List.getD_eq_getElem?_getD, List.getElem?_set]
  by_cases e : c = b
  · subst e; simp [hb]
  · rw [if_neg (fun h => e h.symm), if_neg e]
theorem cnt_set (r : List Bool) (i : Nat) : cnt r ≤ cnt (r.set i true) := by
  induction r generalizing i with
  | nil => simp [cnt]
  | cons a r ih =>
    rcases i with _ | i
    · rcases a <;> simp [cnt]
    · have := ih i
      simp only [cnt, List.set_cons_succ, List.count_cons] at this ⊢
      omega
theorem cert_set {n : Nat} {rows : List (List Bool)} {b i c : Nat} (hb : b < rows.length) (h : cert n rows c = true) : cert n (rows.set b ((row rows b).set i true)) c = true := by
  unfold cert at h ⊢
  rw [row_set _ _ _ hb]
  split
  · rename_i e
    subst e
    have := cnt_set (row rows c) i
    simp only [Bool.or_eq_true, decide_eq_true_eq, beq_iff_eq] at h ⊢
    omega
  · exact h
theorem vt_set {rows : List (List Bool)} {b i : Nat} (hb : b < rows.length) (c j : Nat) (h : vt (rows.set b ((row rows b).set i true)) c j = true) : vt rows c j = true ∨ c = b ∧ j = i := by
  unfold vt at h ⊢
  rw [row_set _ _ _ hb] at h
  split at h
  · rename_i e
    subst e
    by_cases hij : j = i
    · exact .inr ⟨rfl, hij⟩
    · left
      simpa [List.getD_eq_getElem?_getD, List.getElem?_set, if_neg (fun e : i = j => hij e.symm)] using h
  · exact .inl h
theorem vtd_set {vs : List Vo} {i : Nat} (hi : i < vs.length) (x : Vo) (j : Nat) : vtd (vs.set i x) j = if j = i then x.voted else vtd vs j := by
  unfold vtd
  simp only [List.getD_eq_getElem?_getD, List.getElem?_set]
  by_cases e : j = i
  · subst e; simp [hi]
  · rw [if_neg (fun h => e h.symm), if_neg e]
theorem lck_set {vs : List Vo} {i : Nat} (hi : i < vs.length) (x : Vo) (j : Nat) : lck (vs.set i x) j = if j = i then x.lock else lck vs j := by
  unfold lck
  simp only [List.getD_eq_getElem?_getD, List.getElem?_set]
  by_cases e : j = i
  · subst e; simp [hi]
  · rw [if_neg (fun h => e h.symm), if_neg e]

/-- what May asks for -/
theorem may_gives {l : List Bl} (h : WfT l) {voted lock b : Nat} (hk : lock < l.length) (hb : b < l.length) (hv : vw l lock ≤ voted) (m : mayI l voted lock b = true) :
    b ≠ 0 ∧ voted < vw l b ∧ vw l lock ≤ vw l (pr l b) := by
  rw [mayI_nat h hk hb] at m
  simp only [Bool.and_eq_true, Bool.or_eq_true, decide_eq_true_eq, Bool.not_eq_true', beq_eq_false_iff_ne] at m
  obtain ⟨⟨n0, hlt⟩, hx⟩ := m
  refine ⟨n0, hlt, ?_⟩
  rcases hx with hx | hx
  · omega
  · have ha := (h.extB_iff hb).1 hx
    have hne : b ≠ lock := by rintro rfl; omega
    exact h.anc_vw (h.pr_lt hb) ((anc_pr_iff hne).1 ha)

theorem Inv.add {n f : Nat} {s : Ps} (h : Inv n f s) {on v : Nat} (ho : on < s.l.length) (hc : cert n s.rows on = true) (hv : vw s.l on < v) (hu : U64 v) (hl : s.l.length < 256) :
    Inv n f ⟨addB s.l on v, s.vs, s.rows ++ [List.replicate n false]⟩ := by
  have hlen := h.len
  have hlow : ∀ i b, f ≤ i → vt (s.rows ++ [List.replicate n false]) b i = true → b ≠ 0 ∧ b < s.l.length ∧ vw s.l b ≤ vtd s.vs i := fun i b hi hb => h.low i b hi (by rw [vt_app] at hb; exact hb)
  refine ⟨h.wf.add ho hv hu hl, ?_, h.nvs, ?_, ?_, ?_, ?_, ?_, ?_, ?_, ?_⟩
  · simp [addB_length, h.len]
  · intro b hb
    simp only [List.length_append, List.length_cons, List.length_nil] at hb
    by_cases e : b < s.rows.length
    · show (row (s.rows ++ [List.replicate n false]) b).length = n
      rw [row_app _ _ e]; exact h.nrow b e
    · obtain rfl : b = s.rows.length := by omega
      show (row (s.rows ++ [List.replicate n false]) s.rows.length).length = n
      rw [row_new]; simp
  · intro b hb
    show cert n (s.rows ++ [List.replicate n false]) (pr (addB s.l on v) b) = true
    have hb' : b < s.l.length + 1 := by rw [← addB_length s.l on v]; exact hb
    by_cases e : b < s.l.length
    · rw [pr_addB _ _ _ e, cert_app (by rw [hlen]; exact h.wf.pr_lt e)]; exact h.par b e
    · obtain rfl : b = s.l.length := by omega
      rw [pr_addB_new, cert_app (by rw [hlen]; exact ho)]; exact hc
  · intro i hi
    obtain ⟨h1, h2, h3⟩ := h.lk i hi
    refine ⟨?_, ?_, ?_⟩
    · show _ < (addB s.l on v).length
      rw [addB_length]; exact Nat.lt_succ_of_lt h1
    · show cert n (s.rows ++ [List.replicate n false]) _ = true
      rw [cert_app (by rw [hlen]; exact h1)]; exact h2
    · show vw (addB s.l on v) _ ≤ _
      rw [vw_addB _ _ _ h1]; exact h3
  · intro i hi
    obtain ⟨c, h1, h2⟩ := h.top i hi
    refine ⟨c, ?_, ?_⟩
    · show _ < (addB s.l on v).length
      rw [addB_length]; omega
    · show _ ≤ vw (addB s.l on v) _
      rw [vw_addB _ _ _ h1]; exact h2
  · intro i b hi hb
    obtain ⟨h1, h2, h3⟩ := hlow i b hi hb
    refine ⟨h1, ?_, ?_⟩
    · show _ < (addB s.l on v).length
      rw [addB_length]; omega
    · show vw (addB s.l on v) _ ≤ _
      rw [vw_addB _ _ _ h2]; exact h3
  · intro i b c hi hb hc e
    obtain ⟨_, b2, _⟩ := hlow i b hi hb
    obtain ⟨_, c2, _⟩ := hlow i c hi hc
    have e' : vw (addB s.l on v) b = vw (addB s.l on v) c := e
    rw [vw_addB _ _ _ b2, vw_addB _ _ _ c2] at e'
    have hb' : vt (s.rows ++ [List.replicate n false]) b i = true := hb
    have hc' : vt (s.rows ++ [List.replicate n false]) c i = true := hc
    rw [vt_app] at hb' hc'
    exact h.one i b c hi hb' hc' e'
  · intro i b hi hb
    obtain ⟨_, b2, _⟩ := hlow i b hi hb
    have hb' : vt (s.rows ++ [List.replicate n false]) b i = true := hb
    rw [vt_app] at hb'
    have g := h.gp i b hi hb'
    have p1 := h.wf.pr_lt b2
    have p2 := h.wf.pr_lt p1
    show vw (addB s.l on v) (pr (addB s.l on v) (pr (addB s.l on v) b)) ≤ vw (addB s.l on v) (lck s.vs i)
    rw [pr_addB _ _ _ b2, pr_addB _ _ _ p1, vw_addB _ _ _ p2]
    rw [vw_addB _ _ _ (h.lk i (h.vt_lt hb')).1]; exact g
  · intro i b c hi hb hc e
    obtain ⟨_, b2, _⟩ := hlow i b hi hb
    obtain ⟨_, c2, _⟩ := hlow i c hi hc
    have e' : vw (addB s.l on v) b < vw (addB s.l on v) c := e
    rw [vw_addB _ _ _ b2, vw_addB _ _ _ c2] at e'
    have hb' : vt (s.rows ++ [List.replicate n false]) b i = true := hb
    have hc' : vt (s.rows ++ [List.replicate n false]) c i = true := hc
    rw [vt_app] at hb' hc'
    have p1 := h.wf.pr_lt b2
    have p2 := h.wf.pr_lt p1
    have q1 := h.wf.pr_lt c2
    show vw (addB s.l on v) (pr (addB s.l on v) (pr (addB s.l on v) b)) ≤ vw (addB s.l on v) (pr (addB s.l on v) c)
    rw [pr_addB _ _ _ b2, pr_addB _ _ _ p1, vw_addB _ _ _ p2, pr_addB _ _ _ c2, vw_addB _ _ _ q1]
    exact h.seq i b c hi hb' hc' e'

theorem Inv.vote {n f : Nat} {s : Ps} (h : Inv n f s) {i b : Nat} (hi : i < n) (hb : b < s.l.length) (hm : f ≤ i → mayI s.l (vtd s.vs i) (lck s.vs i : Nat) (b : Nat) = true) :
    Inv n f ⟨s.l, s.vs.set i ⟨max (vtd s.vs i) (vw s.l b), lkN s.l (lck s.vs i) b⟩, s.rows.set b ((row s.rows b).set i true)⟩ := by
  have hbr : b < s.rows.length := by rw [h.len]; exact hb
  have hiv : i < s.vs.length := by rw [h.nvs]; exact hi
  obtain ⟨hlk, hce, hlv⟩ := h.lk i hi
  have hge := lkN_ge s.l (lck s.vs i) b
  have hp1 := h.wf.pr_lt hb
  have hp2 := h.wf.pr_lt hp1
  have hM : f ≤ i → b ≠ 0 ∧ vtd s.vs i < vw s.l b ∧ vw s.l (lck s.vs i) ≤ vw s.l (pr s.l b) := fun hf => may_gives h.wf hlk hb hlv (hm hf)
  have hV := vtd_set hiv ⟨max (vtd s.vs i) (vw s.l b), lkN s.l (lck s.vs i) b⟩
  have hL := lck_set hiv ⟨max (vtd s.vs i) (vw s.l b), lkN s.l (lck s.vs i) b⟩
  refine ⟨h.wf, ?_, ?_, ?_, ?_, ?_, ?_, ?_, ?_, ?_, ?_⟩
  · show (s.rows.set b _).length = _
    rw [List.length_set]; exact h.len
  · show (s.vs.set i _).length = _
    rw [List.length_set]; exact h.nvs
  · intro c hc
    have hc' : c < s.rows.length := by rw [← List.length_set (as := s.rows) (i := b) (a := (row s.rows b).set i true)]; exact hc
    show (row (s.rows.set b _) c).length = n
    rw [row_set _ _ _ hbr]
    split
    · rename_i e; rw [List.length_set]; exact h.nrow b hbr
    · exact h.nrow c hc'
  · intro c hc
    exact cert_set hbr (h.par c hc)
  · intro j hj
    show lck (s.vs.set i _) j < _ ∧ cert n (s.rows.set b _) (lck (s.vs.set i _) j) = true ∧ vw s.l (lck (s.vs.set i _) j) ≤ vtd (s.vs.set i _) j
    rw [hV j, hL j]
    by_cases e : j = i
    · rw [if_pos e, if_pos e]
      refine ⟨lkN_lt h.wf hlk hb, ?_, ?_⟩
      · refine cert_set hbr ?_
        show cert n s.rows (lkN s.l (lck s.vs i) b) = true
        unfold lkN; split
        · exact h.par _ hp1
        · exact hce
      · show vw s.l (lkN s.l (lck s.vs i) b) ≤ max (vtd s.vs i) (vw s.l b)
        have a1 := h.wf.vw_pr hb
        have a2 := h.wf.vw_pr hp1
        unfold lkN; split <;> omega
    · rw [if_neg e, if_neg e]
      obtain ⟨h1, h2, h3⟩ := h.lk j hj
      exact ⟨h1, cert_set hbr h2, h3⟩
  · intro j hj
    show ∃ c, c < s.l.length ∧ vtd (s.vs.set i _) j ≤ vw s.l c
    rw [hV j]
    by_cases e : j = i
    · rw [if_pos e]
      obtain ⟨c, h1, h2⟩ := h.top i hi
      show ∃ c, c < s.l.length ∧ max (vtd s.vs i) (vw s.l b) ≤ vw s.l c
      by_cases hle : vw s.l b ≤ vw s.l c
      · exact ⟨c, h1, by omega⟩
      · exact ⟨b, hb, by omega⟩
    · rw [if_neg e]; exact h.top j hj
  · intro j c hf hv
    show c ≠ 0 ∧ c < s.l.length ∧ vw s.l c ≤ vtd (s.vs.set i _) j
    rw [hV j]
    rcases vt_set hbr c j hv with hv | ⟨rfl, rfl⟩
    · obtain ⟨h1, h2, h3⟩ := h.low j c hf hv
      refine ⟨h1, h2, ?_⟩
      split
      · rename_i e; subst e; show _ ≤ max _ _; omega
      · exact h3
    · rw [if_pos rfl]
      exact ⟨(hM hf).1, hb, Nat.le_max_right _ _⟩
  · intro j c d hf hc hd e
    have e' : vw s.l c = vw s.l d := e
    rcases vt_set hbr c j hc with kc | ⟨kc1, kc2⟩ <;> rcases vt_set hbr d j hd with kd | ⟨kd1, kd2⟩
    · exact h.one j c d hf kc kd e'
    · have a1 := (h.low j c hf kc).2.2
      have a2 := (hM (kd2 ▸ hf)).2.1
      rw [kd2] at a1
      rw [kd1] at e'
      omega
    · have a1 := (h.low j d hf kd).2.2
      have a2 := (hM (kc2 ▸ hf)).2.1
      rw [kc2] at a1
      rw [kc1] at e'
      omega
    · rw [kc1, kd1]
  · intro j c hf hc
    show vw s.l (pr s.l (pr s.l c)) ≤ vw s.l (lck (s.vs.set i _) j)
    rw [hL j]
    rcases vt_set hbr c j hc with hc | ⟨rfl, rfl⟩
    · have g := h.gp j c hf hc
      split
      · rename_i e; subst e; exact Nat.le_trans g hge.1
      · exact g
    · rw [if_pos rfl]; exact hge.2
  · intro j c d hf hc hd e
    have e' : vw s.l c < vw s.l d := e
    show vw s.l (pr s.l (pr s.l c)) ≤ vw s.l (pr s.l d)
    rcases vt_set hbr c j hc with kc | ⟨kc1, kc2⟩ <;> rcases vt_set hbr d j hd with kd | ⟨kd1, kd2⟩
    · exact h.seq j c d hf kc kd e'
    · have a1 := h.gp j c hf kc
      have a2 := (hM (kd2 ▸ hf)).2.2
      rw [kd2] at a1
      rw [kd1]
      omega
    · have a1 := (h.low j d hf kd).2.2
      have a2 := (hM (kc2 ▸ hf)).2.1
      rw [kc2] at a1
      rw [kc1] at e'
      omega
    · rw [kc1, kd1] at e'; omega

theorem Inv.step {n f : Nat} {s s' : Ps} (h : Inv n f s) (k : Step n f s s') : Inv n f s' := by
  rcases k with _ | ⟨on, v, h1, h2, h3, h4, h5⟩ | ⟨i, b, h1, h2, h3⟩
  · exact h
  · exact h.add h1 h2 h3 h4 h5
  · exact h.vote h1 h2 h3

/-- how a play begins -/
def beg (n : Nat) : Ps := ⟨[⟨0, 0, 0⟩], List.replicate n ⟨0, 0⟩, [List.replicate n false]⟩
theorem vt_beg (n b i : Nat) : vt (beg n).rows b i = false := by
  show vt ([] ++ [List.replicate n false]) b i = false
  rw [vt_app]; rfl
theorem vtd_beg (n i : Nat) : vtd (beg n).vs i = 0 ∧ lck (beg n).vs i = 0 := by
  unfold vtd lck beg
  by_cases h : i < n <;> simp [List.getD, h] <;> exact ⟨rfl, rfl⟩
theorem inv_beg (n f : Nat) : Inv n f (beg n) := by
  refine ⟨wfT_one, rfl, by simp [beg], ?_, ?_, ?_, ?_, ?_, ?_, ?_, ?_⟩
  · intro b hb
    have : b = 0 := by simp [beg] at hb; omega
    subst this; simp [beg, row]
  · intro b hb
    have : b = 0 := by simp [beg] at hb; omega
    subst this; rfl
  · intro i _
    rw [(vtd_beg n i).1, (vtd_beg n i).2]
    exact ⟨by simp [beg], rfl, Nat.le_refl _⟩
  · intro i _
    rw [(vtd_beg n i).1]
    exact ⟨0, by simp [beg], Nat.zero_le _⟩
  · intro i b _ h; rw [vt_beg] at h; cases h
  · intro i b c _ h; rw [vt_beg] at h; cases h
  · intro i b _ h; rw [vt_beg] at h; cases h
  · intro i b c _ h; rw [vt_beg] at h; cases h

/-- are there enough voters: two certified blocks share one who votes where May says so -/
def Enough (n f : Nat) : Prop := ∀ a b : Nat, 2 * n < 3 * a → 2 * n < 3 * b → n + f < a + b
theorem enough4 : Enough 4 1 := fun a b h1 h2 => by omega
theorem enough7 : Enough 7 2 := fun a b h1 h2 => by omega
theorem Inv.shared {n f : Nat} {s : Ps} (h : Inv n f s) (he : Enough n f) {p x : Nat} (hp : p < s.l.length) (hx : x < s.l.length) (p0 : p ≠ 0) (x0 : x ≠ 0) (cp : cert n s.rows p = true) (cx : cert n s.rows x = true) :
    ∃ i, f ≤ i ∧ i < n ∧ vt s.rows p i = true ∧ vt s.rows x i = true := by
  have lp := h.nrow p (by rw [h.len]; exact hp)
  have lx := h.nrow x (by rw [h.len]; exact hx)
  have ap : 2 * n < 3 * cnt (row s.rows p) := by unfold cert at cp; simpa [p0] using cp
  have ax : 2 * n < 3 * cnt (row s.rows x) := by unfold cert at cx; simpa [x0] using cx
  obtain ⟨i, h1, h2, h3, h4⟩ := pig (row s.rows p) (row s.rows x) f (by rw [lp, lx]) (by rw [lp]; exact he _ _ ap ax)
  exact ⟨i, h1, by omega, h3, h4⟩
theorem WfT.vw_pos {l : List Bl} (h : WfT l) {b : Nat} (hb : b < l.length) (h0 : b ≠ 0) : 0 < vw l b := by
  have := (h.step b (by omega) hb).2.2; omega
/-- one certified block in a view -/
theorem Inv.uniq {n f : Nat} {s : Ps} (h : Inv n f s) (he : Enough n f) {p x : Nat} (hp : p < s.l.length) (hx : x < s.l.length) (cp : cert n s.rows p = true) (cx : cert n s.rows x = true) (e : vw s.l p = vw s.l x) : p = x := by
  by_cases p0 : p = 0
  · by_cases x0 : x = 0
    · rw [p0, x0]
    · have := h.wf.vw_pos hx x0
      rw [p0, h.wf.zero.1] at e; omega
  · by_cases x0 : x = 0
    · have := h.wf.vw_pos hp p0
      rw [x0, h.wf.zero.1] at e; omega
    · obtain ⟨i, h1, _, h3, h4⟩ := h.shared he hp hx p0 x0 cp cx
      exact h.one i p x h1 h3 h4 e
/-- what is certified in no earlier view than a block that is three deep extends it -/
theorem Inv.deep {n f : Nat} {s : Ps} (h : Inv n f s) (he : Enough n f) {p : Nat} (hp : p < s.l.length) (cp : cert n s.rows p = true) (p0 : p ≠ 0)
    (v1 : vw s.l p = vw s.l (pr s.l p) + 1) (v2 : vw s.l (pr s.l p) = vw s.l (pr s.l (pr s.l p)) + 1) :
    ∀ k x, vw s.l x = k → x < s.l.length → cert n s.rows x = true → vw s.l (pr s.l (pr s.l p)) ≤ k → Anc s.l (pr s.l (pr s.l p)) x := by
  have hq := h.wf.pr_lt hp
  have hr := h.wf.pr_lt hq
  have cq := h.par p hp
  have cr := h.par _ hq
  intro k
  induction k using Nat.strongRecOn with
  | _ k ih =>
    intro x hk hx cx hle
    by_cases e1 : vw s.l x = vw s.l (pr s.l (pr s.l p))
    · rw [h.uniq he hx hr cx cr e1]; exact Anc.refl _ _
    by_cases e2 : vw s.l x = vw s.l (pr s.l p)
    · rw [h.uniq he hx hq cx cq e2]; exact anc_pr _ _
    by_cases e3 : vw s.l x = vw s.l p
    · rw [h.uniq he hx hp cx cp e3]; exact ⟨2, rfl⟩
    have hgt : vw s.l p < vw s.l x := by omega
    have x0 : x ≠ 0 := by rintro rfl; rw [h.wf.zero.1] at hgt; omega
    obtain ⟨i, h1, _, h3, h4⟩ := h.shared he hp hx p0 x0 cp cx
    have hs := h.seq i p x h1 h3 h4 hgt
    have hlt := (h.wf.step x (by omega) hx).2.2
    exact (ih _ (by omega) (pr s.l x) rfl (h.wf.pr_lt hx) (h.par x hx) hs).trans (anc_pr _ _)
/-- ALL THAT IS COMMITTED STANDS IN ONE LINE -/
theorem Inv.safe {n f : Nat} {s : Ps} (h : Inv n f s) (he : Enough n f) {a b c d : Nat} (ha : a < s.l.length) (hb : b < s.l.length) (hc : comN s.l a = c) (hd : comN s.l b = d) :
    c < s.l.length ∧ d < s.l.length ∧ (extB s.l c d = true ∨ extB s.l d c = true) := by
  rcases h.wf.com_cases ha with k | ⟨r, k, er, hr, _, _, _, p0, _, v1, v2⟩
  · omega
  rcases h.wf.com_cases hb with k' | ⟨r', k', er', hr', _, _, _, p0', _, v1', v2'⟩
  · omega
  obtain rfl : r = c := by omega
  obtain rfl : r' = d := by omega
  refine ⟨hr, hr', ?_⟩
  have hp := h.wf.pr_lt ha
  have hp' := h.wf.pr_lt hb
  have cr : cert n s.rows r = true := by rw [er]; exact h.par _ (h.wf.pr_lt hp)
  have cr' : cert n s.rows r' = true := by rw [er']; exact h.par _ (h.wf.pr_lt hp')
  rw [er] at v2
  rw [er'] at v2'
  rcases Nat.le_total (vw s.l r) (vw s.l r') with hle | hle
  · left
    rw [h.wf.extB_iff hr', er]
    exact h.deep he hp (h.par _ ha) p0 v1 v2 _ r' rfl hr' cr' (by rw [← er]; exact hle)
  · right
    rw [h.wf.extB_iff hr, er']
    exact h.deep he hp' (h.par _ hb) p0' v1' v2' _ r rfl hr cr (by rw [← er']; exact hle)
/-- WHOEVER VOTED SO MAY VOTE FOR A NEW BLOCK ON THE CERTIFIED ONE OF THE GREATEST VIEW -/
theorem Inv.open {n f : Nat} {s : Ps} (h : Inv n f s) (he : Enough n f) {best last i : Nat} (hb : best < s.l.length) (cb : cert n s.rows best = true)
    (hbest : ∀ x, x < s.l.length → cert n s.rows x = true → vw s.l x ≤ vw s.l best) (hlast : ∀ x, x < s.l.length → vw s.l x ≤ last) (hi : i < n) :
    mayI (addB s.l best (last + 1)) (vtd s.vs i) (lck s.vs i : Nat) (s.l.length : Nat) = true := by
  obtain ⟨h1, h2, h3⟩ := h.lk i hi
  obtain ⟨c, hc, hv⟩ := h.top i hi
  have hcl := hlast c hc
  have hle := hbest _ h1 h2
  have key : mayI (addB s.l best (last + 1)) (vtd s.vs i) (lck s.vs i : Nat) (s.l.length : Nat) = (!(s.l.length == 0) && decide (vtd s.vs i < last + 1) && (decide (vw s.l (lck s.vs i) < vw s.l best) || extB (addB s.l best (last + 1)) (lck s.vs i) s.l.length)) := by
    unfold mayI
    have i1 : inT (addB s.l best (last + 1)) (s.l.length : Nat) = true := inT_nat (by rw [addB_length]; omega)
    have i2 : inT (addB s.l best (last + 1)) (lck s.vs i : Nat) = true := inT_nat (by rw [addB_length]; omega)
    rw [i1, i2, viewI_nat (by rw [addB_length]; omega), vw_addB_new, viewI_nat (by rw [addB_length]; omega), vw_addB _ _ _ h1, parI_nat (by rw [addB_length]; omega), pr_addB_new, viewI_nat (by rw [addB_length]; omega), vw_addB _ _ _ hb,
      extI_nat (by rw [addB_length]; omega) (by rw [addB_length]; omega)]
    have e : (((s.l.length : Nat) : Int) == 0) = (s.l.length == 0) := by rw [Bool.eq_iff_iff]; simp
    rw [e]; simp
  rw [key]
  have hpos := h.wf.pos
  have e0 : (s.l.length == 0) = false := beq_eq_false_iff_ne.2 (by omega)
  rw [e0, decide_eq_true (by omega : vtd s.vs i < last + 1)]
  rcases Nat.lt_or_ge (vw s.l (lck s.vs i)) (vw s.l best) with hlt | hge
  · rw [decide_eq_true hlt]; rfl
  · have := h.uniq he h1 hb h2 cb (by omega)
    have hx : extB (addB s.l best (last + 1)) (lck s.vs i) s.l.length = true := by
      unfold extB
      rw [List.any_eq_true]
      refine ⟨1, by simp; omega, ?_⟩
      rw [up_one, pr_addB_new, this]
      simp
    rw [hx]; simp
end Go.Proofs.Ytefbdikoichaeaa
