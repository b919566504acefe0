/-
  PLAIN: what is kept of two banks and of what is under way between them, and that each step keeps it. No walk here.
-/
import Derived.Test.YtcldbipipehedaaKpU
namespace Go.Proofs.Ytcldbipipehedaa
/-- the banks, one of them another -/
def set2 (s : Nat → BkS) (i : Nat) (v : BkS) : Nat → BkS := fun j => if j = i then v else s j
theorem set2_at (s : Nat → BkS) (i : Nat) (v : BkS) : set2 s i v i = v := if_pos rfl
theorem set2_ne (s : Nat → BkS) {i j : Nat} (v : BkS) (h : j ≠ i) : set2 s i v j = s j := if_neg h
theorem set2_same (s : Nat → BkS) (i : Nat) : set2 s i (s i) = s := by
  funext j; unfold set2; split
  · rename_i h; rw [h]
  · rfl
def ppl (a : List UInt8) : Prop := a = xAnn ∨ a = xBob ∨ a = xCy
/-- a way that may be -/
def goodW (x : Wy) : Prop := x.fr < 2 ∧ chkC x.c = 0 ∧ ppl x.c.fr ∧ ppl x.c.to ∧ U64 x.c.amt ∧ ∃ k, k < 2 ∧ (x.c.den = owL x.fr k ∨ x.c.den = vchr (1 - x.fr) k)
def KI (s : Nat → BkS) (l : List Wy) (much : Nat) : Prop := (∀ side k, side < 2 → k < 2 → kept (s side) (s (1 - side)) l side k much) ∧ ∀ x ∈ l, goodW x
theorem vchr_inj {o k o' k' : Nat} (ho : o < 2) (hk : k < 2) (ho' : o' < 2) (hk' : k' < 2) (h : vchr o k = vchr o' k') : o = o' ∧ k = k' := by
  obtain ⟨h1, h2⟩ := vouL_inj h
  exact ow_inj ho hk ho' hk' h2
/-- a way of the bank's own money counts for it alone -/
theorem cnt_own {x : Wy} {o k : Nat} (hf : x.fr = o) (hd : x.c.den = owL o k) (ho : o < 2) (hk : k < 2) {side k' : Nat} (hs : side < 2) (hk' : k' < 2) :
    cnt side (owL side k') (vchr side k') x = if side = o ∧ k' = k then x.c.amt else 0 := by
  unfold cnt
  rw [hf, hd]
  by_cases h : side = o ∧ k' = k
  · rw [if_pos h, h.1, h.2, if_pos (.inl ⟨rfl, rfl⟩)]
  · rw [if_neg h, if_neg]
    rintro (⟨h1, h2⟩ | ⟨h1, h2⟩)
    · obtain ⟨e1, e2⟩ := ow_inj ho hk hs hk' h2
      exact h ⟨e1.symm, e2.symm⟩
    · exact ow_vchr _ _ _ _ h2
/-- a way of a voucher counts for what it stands for -/
theorem cnt_vch {x : Wy} {o k : Nat} (hf : x.fr = o) (hd : x.c.den = vchr (1 - o) k) (ho : o < 2) (hk : k < 2) {side k' : Nat} (hs : side < 2) (hk' : k' < 2) :
    cnt side (owL side k') (vchr side k') x = if side = 1 - o ∧ k' = k then x.c.amt else 0 := by
  unfold cnt
  rw [hf, hd]
  by_cases h : side = 1 - o ∧ k' = k
  · rw [if_pos h, h.1, h.2, if_pos (.inr ⟨by omega, rfl⟩)]
  · rw [if_neg h, if_neg]
    rintro (⟨h1, h2⟩ | ⟨h1, h2⟩)
    · exact ow_vchr _ _ _ _ h2.symm
    · obtain ⟨e1, e2⟩ := vchr_inj (by omega) hk hs hk' h2
      exact h ⟨e1.symm, e2.symm⟩
/-- one bank turned at one money alone -/
def only (a b : BkS) (d : List UInt8) : Prop := ∀ u, u ≠ d → b.sup u = a.sup u ∧ ∀ x, b.bal u x = a.bal u x
theorem only_mint (s : BkS) (a d : List UInt8) (v : Nat) : only s (mintS s a d v) d := fun _ h => mint_far h
theorem only_burn (s : BkS) (a d : List UInt8) (v : Nat) : only s (burnS s a d v) d := fun _ h => burn_far h
theorem only_send (s : BkS) (a c d : List UInt8) (v : Nat) : only s (sendS s a c d v) d := fun u h => ⟨send_sup s a c d v u, send_far h⟩
/-- what the step does not touch is kept -/
theorem kept_far {s : Nat → BkS} {i : Nat} {v : BkS} {d : List UInt8} (ho : only (s i) v d) {l l' : List Wy} {side k much : Nat} (h : kept (s side) (s (1 - side)) l side k much)
    (h1 : side = i → owL side k ≠ d) (h2 : 1 - side = i → vchr side k ≠ d) (h5 : und l' side (owL side k) (vchr side k) = und l side (owL side k) (vchr side k)) :
    kept (set2 s i v side) (set2 s i v (1 - side)) l' side k much := by
  have q1 : (set2 s i v side).sup (owL side k) = (s side).sup (owL side k) ∧ ∀ b, (set2 s i v side).bal (owL side k) b = (s side).bal (owL side k) b := by
    by_cases e : side = i
    · subst e; rw [set2_at]; exact ho _ (h1 rfl)
    · rw [set2_ne s v e]; exact ⟨rfl, fun _ => rfl⟩
  have q2 : (set2 s i v (1 - side)).sup (vchr side k) = (s (1 - side)).sup (vchr side k) ∧ ∀ b, (set2 s i v (1 - side)).bal (vchr side k) b = (s (1 - side)).bal (vchr side k) b := by
    by_cases e : 1 - side = i
    · rw [e, set2_at]; rw [← e] at ho ⊢; exact ho _ (h2 e)
    · rw [set2_ne s v e]; exact ⟨rfl, fun _ => rfl⟩
  exact kept_same h q1.1 q1.2 q2.1 q2.2 h5
theorem ppl_noesc {n : Nat} {a : List UInt8} (h : ppl a) : a ≠ escL n := by
  obtain ⟨e1, e2, e3⟩ := esc_ne n
  rcases h with rfl | rfl | rfl
  · exact e1.symm
  · exact e2.symm
  · exact e3.symm
theorem ppl_len {a : List UInt8} (h : ppl a) : 1 ≤ a.length ∧ a.length ≤ 32 := by
  rcases h with rfl | rfl | rfl <;> decide
theorem mem_out {l : List Wy} {k : Nat} {x : Wy} (h : x ∈ l.take k ++ l.drop (k + 1)) : x ∈ l := by
  rcases List.mem_append.1 h with h | h
  · exact List.mem_of_mem_take h
  · exact List.mem_of_mem_drop h
theorem home_own (ch o k : Nat) : isHome ch (owL o k) = false := by
  rcases h : isHome ch (owL o k) with _ | _
  · rfl
  · obtain ⟨r, hr⟩ := isHome_iff.1 h
    have h1 := (owL_four o k).2
    have h2 := traceL_length ch
    rw [hr] at h1
    unfold vouL at h1
    rw [List.length_append] at h1
    omega
theorem home_vch {o : Nat} (k : Nat) (ho : o < 2) : isHome (1 + o) (vchr (1 - o) k) = true ∧ homeL (1 + o) (vchr (1 - o) k) = owL (1 - o) k := by
  have e : 2 - (1 - o) = 1 + o := by omega
  unfold vchr
  rw [e]
  exact ⟨isHome_vou _ _, homeL_vou _ _⟩
variable {s : Nat → BkS} {l : List Wy} {much : Nat}
/-- an Out of own money -/
theorem ki_out_own (h : KI s l much) (hm : much < 18446744073709551616) {o k : Nat} (ho : o < 2) (hk : k < 2) {c : Co} (hc : chkC c = 0) (hf : ppl c.fr) (ht : ppl c.to) (hu : U64 c.amt) (hd : c.den = owL o k) (hE : outE (s o) (1 + o) c = 0) :
    KI (set2 s o (outS (s o) (1 + o) c)) (l ++ [⟨o, c, false⟩]) much := by
  have hE2 : sendE (s o) c.fr (escL (1 + o)) (owL o k) c.amt = 0 := by
    unfold outE at hE; rw [if_pos hc, hd, home_own] at hE; exact hE
  have hS : outS (s o) (1 + o) c = sendS (s o) c.fr (escL (1 + o)) (owL o k) c.amt := by
    unfold outS; rw [if_pos hc, hd, home_own]; rfl
  rw [hS]
  obtain ⟨h1, h2⟩ := h
  refine ⟨fun side k' hs hk' => ?_, fun x hx => ?_⟩
  · by_cases e : side = o ∧ k' = k
    · obtain ⟨rfl, rfl⟩ := e
      rw [set2_at, set2_ne s _ (by omega)]
      have hcc : (⟨side, c, false⟩ : Wy) = ⟨side, ⟨owL side k', c.amt, c.fr, c.to⟩, false⟩ := by rw [← hd]
      rw [hcc]
      exact kept_out (h1 side k' hs hk') hm hf hE2
    · refine kept_far (only_send _ _ _ _ _) (h1 side k' hs hk') (fun e1 e2 => ?_) (fun e1 e2 => ?_) ?_
      · obtain ⟨q1, q2⟩ := ow_inj hs hk' ho hk e2
        exact e ⟨q1, q2⟩
      · exact ow_vchr _ _ _ _ e2.symm
      · rw [und_snoc, cnt_own (x := ⟨o, c, false⟩) rfl hd ho hk hs hk', if_neg e]
        rfl
  · rcases List.mem_append.1 hx with hx | hx
    · exact h2 x hx
    · rw [List.mem_singleton] at hx
      subst hx
      exact ⟨ho, hc, hf, ht, hu, k, hk, .inl hd⟩
/-- an Out of a voucher -/
theorem ki_out_vch (h : KI s l much) (hm : much < 18446744073709551616) {o k : Nat} (ho : o < 2) (hk : k < 2) {c : Co} (hc : chkC c = 0) (hf : ppl c.fr) (ht : ppl c.to) (hu : U64 c.amt) (hd : c.den = vchr (1 - o) k) (hE : outE (s o) (1 + o) c = 0) :
    KI (set2 s o (outS (s o) (1 + o) c)) (l ++ [⟨o, c, false⟩]) much := by
  obtain ⟨hh, -⟩ := home_vch k ho
  have hE2 : burnE (s o) c.fr (vchr (1 - o) k) c.amt = 0 := by
    unfold outE at hE; rw [if_pos hc, hd, hh] at hE; exact hE
  have hS : outS (s o) (1 + o) c = burnS (s o) c.fr (vchr (1 - o) k) c.amt := by
    unfold outS; rw [if_pos hc, hd, hh]; rfl
  rw [hS]
  obtain ⟨h1, h2⟩ := h
  refine ⟨fun side k' hs hk' => ?_, fun x hx => ?_⟩
  · by_cases e : side = 1 - o ∧ k' = k
    · obtain ⟨e1, rfl⟩ := e
      have e2 : 1 - side = o := by omega
      rw [e2, set2_at, set2_ne s _ (by omega)]
      have hcc : (⟨o, c, false⟩ : Wy) = ⟨o, ⟨vchr side k', c.amt, c.fr, c.to⟩, false⟩ := by rw [e1, ← hd]
      rw [hcc, ← e1]
      have hk1 := h1 side k' hs hk'
      rw [e2] at hk1
      rw [← e1] at hE2
      exact kept_burn hk1 hm hf (by omega) hE2
    · refine kept_far (only_burn _ _ _ _) (h1 side k' hs hk') (fun e1 e2 => ?_) (fun e1 e2 => ?_) ?_
      · exact ow_vchr _ _ _ _ e2
      · obtain ⟨q1, q2⟩ := vchr_inj hs hk' (by omega) hk e2
        exact e ⟨q1, q2⟩
      · rw [und_snoc, cnt_vch (x := ⟨o, c, false⟩) rfl hd ho hk hs hk', if_neg e]
        rfl
  · rcases List.mem_append.1 hx with hx | hx
    · exact h2 x hx
    · rw [List.mem_singleton] at hx
      subst hx
      exact ⟨ho, hc, hf, ht, hu, k, hk, .inr hd⟩
/-- a Send among people -/
theorem ki_send (h : KI s l much) (hm : much < 18446744073709551616) {o k : Nat} (ho : o < 2) (hk : k < 2) {a c : List UInt8} (ha : ppl a) (hc : ppl c) (v : Nat) :
    KI (set2 s o (sendS (s o) a c (owL o k) v)) l much := by
  by_cases hE : sendE (s o) a c (owL o k) v = 0
  · obtain ⟨h1, h2⟩ := h
    refine ⟨fun side k' hs hk' => ?_, h2⟩
    by_cases e : side = o ∧ k' = k
    · obtain ⟨rfl, rfl⟩ := e
      rw [set2_at, set2_ne s _ (by omega)]
      exact kept_send (h1 side k' hs hk') hm ha hc hE
    · refine kept_far (only_send _ _ _ _ _) (h1 side k' hs hk') (fun e1 e2 => ?_) (fun e1 e2 => ?_) rfl
      · obtain ⟨q1, q2⟩ := ow_inj hs hk' ho hk e2
        exact e ⟨q1, q2⟩
      · exact ow_vchr _ _ _ _ e2.symm
  · rw [send_no hE, set2_same]; exact h
theorem cnt_und {j : Nat} {x : Wy} (hx : l[j]? = some x) (side : Nat) (d v : List UInt8) : cnt side d v x ≤ und l side d v := by
  have := und_out l j x hx side d v
  omega
theorem chk_one {v : Nat} {d a : List UInt8} (hv : 0 < v) (hd : 1 ≤ d.length ∧ d.length ≤ 128) (ha : 1 ≤ a.length ∧ a.length ≤ 32) : chkE v d [a] = 0 := by
  unfold chkE okN
  simp only [List.all_cons, List.all_nil, Bool.and_true]
  rw [if_pos (by simp; omega), if_neg (by omega)]
theorem chk_two {v : Nat} {d a b : List UInt8} (hv : 0 < v) (hd : 1 ≤ d.length ∧ d.length ≤ 128) (ha : 1 ≤ a.length ∧ a.length ≤ 32) (hb : 1 ≤ b.length ∧ b.length ≤ 32) : chkE v d [a, b] = 0 := by
  unfold chkE okN
  simp only [List.all_cons, List.all_nil, Bool.and_true]
  rw [if_pos (by simp; omega), if_neg (by omega)]
theorem esc_len {o : Nat} (ho : o < 2) : 1 ≤ (escL (1 + o)).length ∧ (escL (1 + o)).length ≤ 32 := by
  rw [escL_length]
  have := dec_len64 (show U64 (1 + o) by show _ < _; omega)
  omega
/-- money goes back to the one who sent it out -/
theorem ki_back (h : KI s l much) (hm : much < 18446744073709551616) {j : Nat} {x : Wy} (hx : l[j]? = some x) :
    backE (s x.fr) (1 + x.fr) x.c = 0 ∧ KI (set2 s x.fr (backS (s x.fr) (1 + x.fr) x.c)) (l.take j ++ l.drop (j + 1)) much := by
  obtain ⟨h1, h2⟩ := h
  obtain ⟨ho, hc, hf, ht, hu, k, hk, hd⟩ := h2 x (List.mem_of_getElem? hx)
  obtain ⟨z1, z2, z3, z4, z5, z6, z7, -, -⟩ := chkC_zero hc
  rcases hd with hd | hd
  · have hk1 := h1 x.fr k ho hk
    have hcn : cnt x.fr (owL x.fr k) (vchr x.fr k) x = x.c.amt := by rw [cnt_own rfl hd ho hk ho hk, if_pos ⟨rfl, rfl⟩]
    have hle := cnt_und hx x.fr (owL x.fr k) (vchr x.fr k)
    rw [hcn] at hle
    have hE : sendE (s x.fr) (escL (1 + x.fr)) x.c.fr (owL x.fr k) x.c.amt = 0 := by
      unfold sendE
      rw [chk_two z7 (by rw [← hd]; exact ⟨z1, z2⟩) (esc_len ho) ⟨z3, z4⟩, if_pos rfl, if_neg]
      have := hk1.2.2.2
      omega
    have hB : backE (s x.fr) (1 + x.fr) x.c = 0 ∧ backS (s x.fr) (1 + x.fr) x.c = sendS (s x.fr) (escL (1 + x.fr)) x.c.fr (owL x.fr k) x.c.amt := by
      unfold backE backS
      rw [if_pos hc, if_pos hc, hd, home_own]
      exact ⟨hE, rfl⟩
    refine ⟨hB.1, ?_⟩
    rw [hB.2]
    refine ⟨fun side k' hs hk' => ?_, fun y hy => h2 y (mem_out hy)⟩
    by_cases e : side = x.fr ∧ k' = k
    · obtain ⟨rfl, rfl⟩ := e
      rw [set2_at, set2_ne s _ (by omega)]
      exact kept_home hk1 hm hf hx hcn hE
    · refine kept_far (only_send _ _ _ _ _) (h1 side k' hs hk') (fun e1 e2 => ?_) (fun e1 e2 => ?_) ?_
      · obtain ⟨q1, q2⟩ := ow_inj hs hk' ho hk e2
        exact e ⟨q1, q2⟩
      · exact ow_vchr _ _ _ _ e2.symm
      · have := und_out l j x hx side (owL side k') (vchr side k')
        rw [cnt_own rfl hd ho hk hs hk', if_neg e] at this
        exact this
  · have ho1 : 1 - x.fr < 2 := by omega
    have e11 : 1 - (1 - x.fr) = x.fr := by omega
    have hk1 := h1 (1 - x.fr) k ho1 hk
    rw [e11] at hk1
    have hcn : cnt (1 - x.fr) (owL (1 - x.fr) k) (vchr (1 - x.fr) k) x = x.c.amt := by rw [cnt_vch rfl hd ho hk ho1 hk, if_pos ⟨rfl, rfl⟩]
    have hle := cnt_und hx (1 - x.fr) (owL (1 - x.fr) k) (vchr (1 - x.fr) k)
    rw [hcn] at hle
    have hE : mintE (s x.fr) x.c.fr (vchr (1 - x.fr) k) x.c.amt = 0 := by
      unfold mintE
      rw [chk_one z7 (by rw [← hd]; exact ⟨z1, z2⟩) ⟨z3, z4⟩, if_pos rfl, if_neg]
      have := hk1.1
      have := hk1.2.2.2
      unfold overA
      simp
      omega
    have hB : backE (s x.fr) (1 + x.fr) x.c = 0 ∧ backS (s x.fr) (1 + x.fr) x.c = mintS (s x.fr) x.c.fr (vchr (1 - x.fr) k) x.c.amt := by
      unfold backE backS
      rw [if_pos hc, if_pos hc, hd, (home_vch k ho).1]
      exact ⟨hE, rfl⟩
    refine ⟨hB.1, ?_⟩
    rw [hB.2]
    refine ⟨fun side k' hs hk' => ?_, fun y hy => h2 y (mem_out hy)⟩
    by_cases e : side = 1 - x.fr ∧ k' = k
    · obtain ⟨rfl, rfl⟩ := e
      rw [e11, set2_at, set2_ne s _ (by omega)]
      exact kept_mint hk1 hm hf hx hcn hE
    · refine kept_far (only_mint _ _ _ _) (h1 side k' hs hk') (fun e1 e2 => ?_) (fun e1 e2 => ?_) ?_
      · exact ow_vchr _ _ _ _ e2
      · obtain ⟨q1, q2⟩ := vchr_inj hs hk' ho1 hk e2
        exact e ⟨q1, q2⟩
      · have := und_out l j x hx side (owL side k') (vchr side k')
        rw [cnt_vch rfl hd ho hk hs hk', if_neg e] at this
        exact this
/-- money comes in: it may be refused where it does not go home; else it is kept -/
theorem ki_in (h : KI s l much) (hm : much < 18446744073709551616) {j : Nat} {x : Wy} (hx : l[j]? = some x) :
    (inE (s (1 - x.fr)) (2 - x.fr) (1 + x.fr) x.c = 0 → KI (set2 s (1 - x.fr) (inS (s (1 - x.fr)) (2 - x.fr) (1 + x.fr) x.c)) (l.take j ++ l.drop (j + 1)) much) ∧
      (¬ inE (s (1 - x.fr)) (2 - x.fr) (1 + x.fr) x.c = 0 → isHome (1 + x.fr) x.c.den = false) := by
  obtain ⟨h1, h2⟩ := h
  obtain ⟨ho, hc, hf, ht, hu, k, hk, hd⟩ := h2 x (List.mem_of_getElem? hx)
  obtain ⟨z1, z2, z3, z4, z5, z6, z7, -, -⟩ := chkC_zero hc
  have ho1 : 1 - x.fr < 2 := by omega
  have e11 : 1 - (1 - x.fr) = x.fr := by omega
  rcases hd with hd | hd
  · refine ⟨fun hE => ?_, fun _ => by rw [hd]; exact home_own _ _ _⟩
    have hk1 := h1 x.fr k ho hk
    have hcn : cnt x.fr (owL x.fr k) (vchr x.fr k) x = x.c.amt := by rw [cnt_own rfl hd ho hk ho hk, if_pos ⟨rfl, rfl⟩]
    have hB : mintE (s (1 - x.fr)) x.c.to (vchr x.fr k) x.c.amt = 0 ∧ inS (s (1 - x.fr)) (2 - x.fr) (1 + x.fr) x.c = mintS (s (1 - x.fr)) x.c.to (vchr x.fr k) x.c.amt := by
      unfold inE at hE
      unfold inS
      rw [if_pos hc, hd, home_own] at hE
      rw [if_pos hc, hd, home_own]
      exact ⟨hE, rfl⟩
    rw [hB.2]
    refine ⟨fun side k' hs hk' => ?_, fun y hy => h2 y (mem_out hy)⟩
    by_cases e : side = x.fr ∧ k' = k
    · obtain ⟨rfl, rfl⟩ := e
      rw [set2_at, set2_ne s _ (by omega)]
      exact kept_mint hk1 hm ht hx hcn hB.1
    · refine kept_far (only_mint _ _ _ _) (h1 side k' hs hk') (fun e1 e2 => ?_) (fun e1 e2 => ?_) ?_
      · exact ow_vchr _ _ _ _ e2
      · obtain ⟨q1, q2⟩ := vchr_inj hs hk' ho hk e2
        exact e ⟨q1, q2⟩
      · have := und_out l j x hx side (owL side k') (vchr side k')
        rw [cnt_own rfl hd ho hk hs hk', if_neg e] at this
        exact this
  · have hk1 := h1 (1 - x.fr) k ho1 hk
    rw [e11] at hk1
    have hcn : cnt (1 - x.fr) (owL (1 - x.fr) k) (vchr (1 - x.fr) k) x = x.c.amt := by rw [cnt_vch rfl hd ho hk ho1 hk, if_pos ⟨rfl, rfl⟩]
    have hle := cnt_und hx (1 - x.fr) (owL (1 - x.fr) k) (vchr (1 - x.fr) k)
    rw [hcn] at hle
    have hes : 1 + (1 - x.fr) = 2 - x.fr := by omega
    have h4 := hk1.2.2.2
    rw [hes] at h4
    have hE : sendE (s (1 - x.fr)) (escL (2 - x.fr)) x.c.to (owL (1 - x.fr) k) x.c.amt = 0 := by
      unfold sendE
      rw [chk_two z7 (by have := owL_four (1 - x.fr) k; omega) (by rw [← hes]; exact esc_len ho1) ⟨z5, z6⟩, if_pos rfl, if_neg]
      omega
    have hB : inE (s (1 - x.fr)) (2 - x.fr) (1 + x.fr) x.c = 0 ∧ inS (s (1 - x.fr)) (2 - x.fr) (1 + x.fr) x.c = sendS (s (1 - x.fr)) (escL (2 - x.fr)) x.c.to (owL (1 - x.fr) k) x.c.amt := by
      unfold inE inS
      rw [if_pos hc, if_pos hc, hd, (home_vch k ho).1, (home_vch k ho).2]
      exact ⟨hE, rfl⟩
    refine ⟨fun _ => ?_, fun hn => absurd hB.1 hn⟩
    rw [hB.2]
    refine ⟨fun side k' hs hk' => ?_, fun y hy => h2 y (mem_out hy)⟩
    by_cases e : side = 1 - x.fr ∧ k' = k
    · obtain ⟨rfl, rfl⟩ := e
      rw [e11, set2_at, set2_ne s _ (by omega)]
      rw [← hes] at hE ⊢
      exact kept_home hk1 hm ht hx hcn hE
    · refine kept_far (only_send _ _ _ _ _) (h1 side k' hs hk') (fun e1 e2 => ?_) (fun e1 e2 => ?_) ?_
      · obtain ⟨q1, q2⟩ := ow_inj hs hk' ho1 hk e2
        exact e ⟨q1, q2⟩
      · exact ow_vchr _ _ _ _ e2.symm
      · have := und_out l j x hx side (owL side k') (vchr side k')
        rw [cnt_vch rfl hd ho hk hs hk', if_neg e] at this
        exact this
/-- a way marked as failed -/
def Wy.fail (x : Wy) : Wy := ⟨x.fr, x.c, true⟩
theorem ki_fail (h : KI s l much) {j : Nat} {x : Wy} (hx : l[j]? = some x) : KI s (l.set j x.fail) much := by
  obtain ⟨h1, h2⟩ := h
  obtain ⟨hj, rfl⟩ := List.getElem?_eq_some_iff.1 hx
  have hu : ∀ side d v, und (l.set j l[j].fail) side d v = und l side d v := by
    intro side d v
    unfold und
    congr 1
    rw [List.map_set]
    have : cnt side d v l[j].fail = (l.map (cnt side d v))[j]'(by simpa using hj) := by rw [List.getElem_map]; rfl
    rw [this, List.set_getElem_self]
  refine ⟨fun side k hs hk => kept_same (h1 side k hs hk) rfl (fun _ => rfl) rfl (fun _ => rfl) (hu _ _ _), fun y hy => ?_⟩
  rcases List.mem_or_eq_of_mem_set hy with hy | rfl
  · exact h2 y hy
  · exact h2 l[j] (List.getElem_mem hj)
end Go.Proofs.Ytcldbipipehedaa
