/-
  VOTE: the two trees side by side; voussoirref13's contracts over the pair.
-/
import Derived.Test.YtefbdikoichaeaaVr6
namespace Go.Proofs.Ytefbdikoichaeaa
open Go.RowKit
/-- block b is a tree of the document's, made since w0, of the blocks l -/
def TdN (w0 w : World) (b : Nat) (l : List Bl) : Prop := WfT l ∧ New w0 w ∧ w0.heap.size ≤ b ∧ ∃ g cap, Td w b g cap l ∧ w0.heap.size ≤ g
theorem TdN.keep {w0 w w' : World} {b : Nat} {l : List Bl} (h : TdN w0 w b l) (k : New w w') : TdN w0 w' b l := by
  obtain ⟨h1, h2, h3, g, cap, h4, h5⟩ := h
  exact ⟨h1, h2.then k (fun _ h => h.elim), h3, g, cap, h4.keep k, h5⟩
theorem TdN.drew {w0 w : World} {b : Nat} {l : List Bl} (h : TdN w0 w b l) : TdN w0 w.drew b l := by
  obtain ⟨h1, h2, h3, g, cap, h4, h5⟩ := h
  exact ⟨h1, h2.drew, h3, g, cap, h4.drew, h5⟩
theorem own_at {w : World} {e : TypeId} {s g n cap : Nat} {xs : List Value} (h : w.ownsRow 0 e s (.slice (some ⟨g, 0, none⟩) n cap) n xs) : ∃ c, w.heap[g]? = some (.cells c e (0, 0)) := by
  rcases h.2 with ⟨e, _⟩ | ⟨g', cap', cur, e, _, hh, _⟩
  · cases e
  · cases e; exact ⟨cur, hh⟩
theorem far_type {w : World} {a b : Nat} {c d : Array Value} {T U : TypeId} {f g : Nat × Nat} (ha : w.heap[a]? = some (.cells c T f)) (hb : w.heap[b]? = some (.cells d U g)) (hT : T ≠ U) : a ≠ b := by
  rintro rfl
  have := ha.symm.trans hb
  simp at this
  exact hT this.2.1
theorem apart2 {w : World} {b g cap b' g' cap' : Nat} {l m : List Bl} (h : Tr w b g cap l) (k : Td w b' g' cap' m) : b ≠ b' ∧ b ≠ g' ∧ g ≠ b' ∧ g ≠ g' := by
  obtain ⟨c, hc⟩ := own_at h.own
  obtain ⟨d, hd⟩ := own_at k.own
  exact ⟨far_type h.blk k.blk (by decide), far_type h.blk hd (by decide), far_type hc k.blk (by decide), far_type hc hd (by decide)⟩
/-- both trees -/
def Two (w0 w : World) (bt bu : Nat) (l m : List Bl) : Prop := TrN w0 w bt l ∧ TdN w0 w bu m
theorem Two.new {w0 w : World} {bt bu : Nat} {l m : List Bl} (h : Two w0 w bt bu l m) : New w0 w := h.1.new
theorem Two.keep {w0 w w' : World} {bt bu : Nat} {l m : List Bl} (h : Two w0 w bt bu l m) (k : New w w') : Two w0 w' bt bu l m := ⟨h.1.keep k, h.2.keep k⟩
theorem Two.drew {w0 w : World} {bt bu : Nat} {l m : List Bl} (h : Two w0 w bt bu l m) : Two w0 w.drew bt bu l m := ⟨h.1.drew, h.2.drew⟩
theorem newD2 {w0 w : World} {bt : Nat} {l : List Bl} (h : TrN w0 w bt l) :
    Calls Try.prog 21 #[] w fun e w' => e = .returned (.pointer (some ⟨w.heap.size + 1, 0, none⟩)) ∧ Two w0 w' bt (w.heap.size + 1) l [⟨0, 0, 0⟩] :=
  (newD w).mono fun e w' ⟨he, ht, k⟩ => ⟨he, h.keep k, wfT_one, h.new.then k (fun _ h => h.elim), by have := h.new.size; omega, _, _, ht, h.new.size⟩

/-- what Add hands back -/
def addX (l : List Bl) (p : Int) (v : Nat) : Int := if addOk l p v then l.length else -1
def addE (l : List Bl) (p : Int) (v : Nat) : Int := if addOk l p v then 0 else 130
theorem addR_eq (l : List Bl) (p : Int) (v : Nat) : addR l p v = .tuple #[.int .i64 (addX l p v), .int .i64 (addE l p v)] := by
  unfold addR addX addE; split <;> rfl
theorem addL_wf {l : List Bl} (h : WfT l) (p : Int) {v : Nat} (hu : U64 v) : WfT (addL l p v) := by
  unfold addL
  split
  · rename_i e
    unfold addOk at e
    simp only [Bool.and_eq_true, decide_eq_true_eq] at e
    obtain ⟨n, rfl, hn⟩ := inT_iff e.1.1
    rw [viewI_nat hn] at e
    exact h.add hn e.1.2 hu e.2
  · exact h
theorem addOk_parts {l : List Bl} {p : Int} {v : Nat} : (addOk l p v = false ∧ (inT l p = false ∨ ∃ n : Nat, p = n ∧ n < l.length ∧ (v ≤ vw l n ∨ 256 ≤ l.length))) ∨ (addOk l p v = true ∧ ∃ n : Nat, p = n ∧ n < l.length ∧ vw l n < v ∧ l.length < 256) := by
  rcases hp : inT l p with _ | _
  · left; exact ⟨by unfold addOk; rw [hp]; rfl, .inl rfl⟩
  · obtain ⟨n, rfl, hn⟩ := inT_iff hp
    by_cases hv : vw l n < v ∧ l.length < 256
    · right; exact ⟨addOk_nat hn hv.1 hv.2, n, rfl, hn, hv.1, hv.2⟩
    · left
      have hv2 : v ≤ vw l n ∨ 256 ≤ l.length := by omega
      refine ⟨?_, .inr ⟨n, rfl, hn, hv2⟩⟩
      unfold addOk; rw [viewI_nat hn]
      rcases hv2 with e | e
      · rw [decide_eq_false (by omega : ¬ vw l n < v)]; simp
      · rw [decide_eq_false (by omega : ¬ l.length < 256)]; simp
theorem tAdd {w0 w : World} {bt bu : Nat} {l m : List Bl} (h : Two w0 w bt bu l m) (p : Int) (v : Nat) (hu : U64 v) :
    Calls Try.prog 15 #[.pointer (some ⟨bt, 0, none⟩), .int .i64 p, .int .u64 v] w fun e w' => e = .returned (.tuple #[.int .i64 (addX l p v), .int .i64 (addE l p v)]) ∧ Two w0 w' bt bu (addL l p v) m := by
  have h' := h
  obtain ⟨⟨h1, h2, h3, g, cap, h4, h5⟩, i1, i2, i3, g', cap', i4, i5⟩ := h
  have hap := apart2 h4 i4
  unfold addX addE addL
  rcases addOk_parts (l := l) (p := p) (v := v) with ⟨e, hno⟩ | ⟨e, n, rfl, hn, hv, hl⟩
  · simp only [e]
    rcases hno with hi | ⟨n, rfl, hn, hv⟩
    · exact (add_no bt g cap l p v w h4 hi).mono fun e w' ⟨he, hw⟩ => ⟨he, hw ▸ h'⟩
    · exact (add_no2 bt g cap l n v w h4 hn hv).mono fun e w' ⟨he, hw⟩ => ⟨he, hw ▸ h'⟩
  · simp only [e]
    refine (add_ok bt g cap l n v w h1 h4 hn hv hl).mono ?_
    rintro e w' ⟨he, g2, cap2, ht, k, hg⟩
    have nn : New w0 w' := h2.then k (by
      rintro j (rfl | rfl)
      · exact .inr h3
      · exact .inr h5)
    refine ⟨he, ⟨h1.add hn hv hu hl, nn, h3, g2, cap2, ht, ?_⟩, i1, nn, i3, g', cap', i4.keepS k ?_ ?_, i5⟩
    · rcases hg with rfl | hg
      · exact h5
      · exact Nat.le_trans h2.size hg
    · rintro (e | e)
      · exact hap.1 e.symm
      · exact hap.2.2.1 e.symm
    · rintro (e | e)
      · exact hap.2.1 e.symm
      · exact hap.2.2.2 e.symm
theorem uAdd {w0 w : World} {bt bu : Nat} {l m : List Bl} (h : Two w0 w bt bu m l) (p : Int) (v : Nat) (hu : U64 v) :
    Calls Try.prog 22 #[.pointer (some ⟨bu, 0, none⟩), .int .i64 p, .int .u64 v] w fun e w' => e = .returned (.tuple #[.int .i64 (addX l p v), .int .i64 (addE l p v)]) ∧ Two w0 w' bt bu m (addL l p v) := by
  have h' := h
  obtain ⟨⟨h1, h2, h3, g, cap, h4, h5⟩, i1, i2, i3, g', cap', i4, i5⟩ := h
  have hap := apart2 h4 i4
  unfold addX addE addL
  rcases addOk_parts (l := l) (p := p) (v := v) with ⟨e, hno⟩ | ⟨e, n, rfl, hn, hv, hl⟩
  · simp only [e]
    rcases hno with hi | ⟨n, rfl, hn, hv⟩
    · exact (addD_no bu g' cap' l p v w i4 hi).mono fun e w' ⟨he, hw⟩ => ⟨he, hw ▸ h'⟩
    · exact (addD_no2 bu g' cap' l n v w i4 hn hv).mono fun e w' ⟨he, hw⟩ => ⟨he, hw ▸ h'⟩
  · simp only [e]
    refine (addD_ok bu g' cap' l n v w i1 i4 hn hv hl).mono ?_
    rintro e w' ⟨he, g2, cap2, ht, k, hg⟩
    have nn : New w0 w' := h2.then k (by
      rintro j (rfl | rfl)
      · exact .inr i3
      · exact .inr i5)
    refine ⟨he, ⟨h1, nn, h3, g, cap, h4.keepS k ?_ ?_, h5⟩, i1.add hn hv hu hl, nn, i3, g2, cap2, ht, ?_⟩
    · rintro (e | e)
      · exact hap.1 e
      · exact hap.2.1 e
    · rintro (e | e)
      · exact hap.2.2.1 e
      · exact hap.2.2.2 e
    · rcases hg with rfl | hg
      · exact i5
      · exact Nat.le_trans h2.size hg
section
variable {w0 w : World} {bt bu : Nat} {l m : List Bl} (h : Two w0 w bt bu l m)
include h
theorem uLen : Calls Try.prog 23 #[.pointer (some ⟨bu, 0, none⟩)] w fun e w' => e = .returned (.int .i64 m.length) ∧ w = w' := by
  obtain ⟨_, i1, i2, i3, g', cap', i4, i5⟩ := h
  exact lenD bu g' cap' m w i4
theorem uView (i : Int) : Calls Try.prog 24 #[.pointer (some ⟨bu, 0, none⟩), .int .i64 i] w fun e w' => e = .returned (.int .u64 (viewI m i)) ∧ w = w' := by
  obtain ⟨_, i1, i2, i3, g', cap', i4, i5⟩ := h
  exact viewD bu g' cap' m i w i4
theorem uPar (i : Int) : Calls Try.prog 31 #[.pointer (some ⟨bu, 0, none⟩), .int .i64 i] w fun e w' => e = .returned (.int .i64 (parI m i)) ∧ New w w' := by
  obtain ⟨_, i1, i2, i3, g', cap', i4, i5⟩ := h
  exact (parD bu g' cap' m i w i4).mono fun e w' ⟨he, hw⟩ => ⟨he, hw ▸ New.refl w⟩
theorem uHt (i : Int) : Calls Try.prog 32 #[.pointer (some ⟨bu, 0, none⟩), .int .i64 i] w fun e w' => e = .returned (.int .i64 (htI m i)) ∧ New w w' := by
  obtain ⟨_, i1, i2, i3, g', cap', i4, i5⟩ := h
  exact (htD bu g' cap' m i w i4).mono fun e w' ⟨he, hw⟩ => ⟨he, hw ▸ New.refl w⟩
theorem uExt (i j : Int) : Calls Try.prog 30 #[.pointer (some ⟨bu, 0, none⟩), .int .i64 i, .int .i64 j] w fun e w' => e = .returned (.bool (extI m i j)) ∧ New w w' := by
  obtain ⟨_, i1, i2, i3, g', cap', i4, i5⟩ := h
  exact (extD bu g' cap' m i j w i1 i4).mono fun e w' ⟨he, hw⟩ => ⟨he, hw ▸ New.refl w⟩
theorem uMay (voted : Nat) (lock i : Int) : Calls Try.prog 26 #[.pointer (some ⟨bu, 0, none⟩), .agg #[.int .u64 voted, .int .i64 lock], .int .i64 i] w fun e w' => e = .returned (.bool (mayI m voted lock i)) ∧ New w w' := by
  obtain ⟨_, i1, i2, i3, g', cap', i4, i5⟩ := h
  exact mayD bu g' cap' m voted lock i w i1 i4
theorem uAft (voted : Nat) (lock i : Int) : Calls Try.prog 28 #[.pointer (some ⟨bu, 0, none⟩), .agg #[.int .u64 voted, .int .i64 lock], .int .i64 i] w fun e w' => e = .returned (.agg #[.int .u64 (aftV m voted i), .int .i64 (aftL m lock i)]) ∧ New w w' := by
  obtain ⟨_, i1, i2, i3, g', cap', i4, i5⟩ := h
  exact afterD bu g' cap' m voted lock i w i1 i4
theorem uCom (i : Int) : Calls Try.prog 29 #[.pointer (some ⟨bu, 0, none⟩), .int .i64 i] w fun e w' => e = .returned (.int .i64 (comI m i)) ∧ New w w' := by
  obtain ⟨_, i1, i2, i3, g', cap', i4, i5⟩ := h
  exact comD bu g' cap' m i w i1 i4
end
theorem neV_eq (x y : Int) (w : World) : (binOp .neq 43 (.agg #[.int .u64 x, .int .i64 y]) (.agg #[.int .u64 x, .int .i64 y])).run Try.prog w = .ok (.bool false) w := by
  simp [go_sem]
end Go.Proofs.Ytefbdikoichaeaa
