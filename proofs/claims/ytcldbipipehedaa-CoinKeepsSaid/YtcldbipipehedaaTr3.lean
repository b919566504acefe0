/-
  WALKS: transfer.Lay; the document's Lay.
-/
import Derived.Test.YtcldbipipehedaaTr1
import Derived.Test.YtcldbipipehedaaCod4
namespace Go.Proofs.Ytcldbipipehedaa
open Go.RowKit

/-- a Writer made since w0 -/
def WrN (w0 w : World) (b : Nat) (l : List UInt8) : Prop := ∃ v, Wr w b v l ∧ New w0 w ∧ w0.heap.size ≤ b ∧ ∀ g, v.ownBlock = some g → w0.heap.size ≤ g
theorem WrN.new {w0 w : World} {b : Nat} {l : List UInt8} (h : WrN w0 w b l) : New w0 w := by obtain ⟨v, _, k, _⟩ := h; exact k
theorem wNew {w0 w : World} (n : New w0 w) : Calls Try.prog 71 #[] w fun e w' => ∃ b, e = .returned (.pointer (some ⟨b, 0, none⟩)) ∧ WrN w0 w' b [] :=
  (newWriter_any w).mono fun _ _ ⟨he, hw, k⟩ => ⟨_, he, _, hw, n.then k (fun _ h => h.elim), n.size, fun g h => by simp [Value.ownBlock] at h⟩
theorem wStep {w0 w w' : World} {b : Nat} {v v' : Value} {l' : List UInt8} (n : New w0 w) (hb : w0.heap.size ≤ b) (hv : ∀ g, v.ownBlock = some g → w0.heap.size ≤ g) (hw : Wr w' b v' l') (k : Keeps (Wrs b v) w w') (m : Moved w w' v v') : WrN w0 w' b l' := by
  refine ⟨v', hw, n.then k ?_, hb, ?_⟩
  · rintro j (rfl | e)
    · exact .inr hb
    · exact .inr (hv j e.symm)
  · intro g hg
    rcases m with e | ⟨g', e, h1, _⟩
    · exact hv g (e ▸ hg)
    · rw [e] at hg; cases hg
      exact Nat.le_trans n.size h1
theorem wText {w0 w : World} {b : Nat} {l : List UInt8} (h : WrN w0 w b l) (s : List UInt8) (hl : l.length + 4 + s.length ≤ 140737488355328) :
    Calls Try.prog 72 #[.pointer (some ⟨b, 0, none⟩), .string ⟨s.toArray⟩] w fun e w' => e = .returned (.tuple #[]) ∧ WrN w0 w' b (l ++ (be 4 s.length ++ s)) := by
  obtain ⟨v, h1, h2, h3, h4⟩ := h
  refine (text_any b v l ⟨s.toArray⟩ w (by simpa [ByteArray.size] using hl) h1).mono fun _ _ ⟨he, v', hw, k, m⟩ => ⟨he, ?_⟩
  have := wStep h2 h3 h4 hw k m
  simpa [ByteArray.size] using this
theorem wNum {w0 w : World} {b : Nat} {l : List UInt8} (h : WrN w0 w b l) (n : Nat) (hl : l.length + 8 ≤ 140737488355328) :
    Calls Try.prog 73 #[.pointer (some ⟨b, 0, none⟩), .int .u64 n] w fun e w' => e = .returned (.tuple #[]) ∧ WrN w0 w' b (l ++ be 8 n) := by
  obtain ⟨v, h1, h2, h3, h4⟩ := h
  exact (num_any b v l n w hl h1).mono fun _ _ ⟨he, v', hw, k, m⟩ => ⟨he, wStep h2 h3 h4 hw k m⟩
theorem wBytes {w0 w : World} {b : Nat} {l : List UInt8} (h : WrN w0 w b l) :
    Calls Try.prog 74 #[.pointer (some ⟨b, 0, none⟩)] w fun e w' => e = .returned (.string ⟨l.toArray⟩) ∧ New w0 w' := by
  obtain ⟨v, h1, h2, h3, h4⟩ := h
  exact (bytes_any b v l w h1).mono fun _ _ ⟨he, k⟩ => ⟨he, h2.then k (fun _ h => h.elim)⟩
def WrD (w0 w : World) (b : Nat) (l : List UInt8) : Prop := Wr2 w b l ∧ New w0 w ∧ w0.heap.size ≤ b
theorem dNew {w0 w : World} (n : New w0 w) : Calls Try.prog 75 #[] w fun e w' => ∃ b, e = .returned (.pointer (some ⟨b, 0, none⟩)) ∧ WrD w0 w' b [] :=
  (newWriter2_any w).mono fun _ _ ⟨he, hw, k⟩ => ⟨_, he, hw, n.then k (fun _ h => h.elim), n.size⟩
theorem dText {w0 w : World} {b : Nat} {l : List UInt8} (h : WrD w0 w b l) (s : List UInt8) (hl : l.length + 4 + s.length ≤ 140737488355328) :
    Calls Try.prog 76 #[.pointer (some ⟨b, 0, none⟩), .string ⟨s.toArray⟩] w fun e w' => e = .returned (.tuple #[]) ∧ WrD w0 w' b (l ++ (be 4 s.length ++ s)) := by
  obtain ⟨h1, h2, h3⟩ := h
  exact (text2_any b l s w hl h1).mono fun _ _ ⟨he, hw, k⟩ => ⟨he, hw, h2.then k (fun j e => .inr (by subst e; exact h3)), h3⟩
theorem dNum {w0 w : World} {b : Nat} {l : List UInt8} (h : WrD w0 w b l) (n : Nat) (hn : U64 n) (hl : l.length + 8 ≤ 140737488355328) :
    Calls Try.prog 77 #[.pointer (some ⟨b, 0, none⟩), .int .u64 n] w fun e w' => e = .returned (.tuple #[]) ∧ WrD w0 w' b (l ++ be 8 n) := by
  obtain ⟨h1, h2, h3⟩ := h
  exact (num2_any b l n w hl hn h1).mono fun _ _ ⟨he, hw, k⟩ => ⟨he, hw, h2.then k (fun j e => .inr (by subst e; exact h3)), h3⟩
theorem dBytes {w0 w : World} {b : Nat} {l : List UInt8} (h : WrD w0 w b l) :
    Calls Try.prog 78 #[.pointer (some ⟨b, 0, none⟩)] w fun e w' => e = .returned (.string ⟨l.toArray⟩) ∧ New w0 w' := by
  obtain ⟨h1, h2, h3⟩ := h
  exact (bytes2_any b l w h1).mono fun _ _ ⟨he, hw⟩ => ⟨he, hw ▸ h2⟩

/-- a coin, laid as bytes -/
def tx (s : List UInt8) : List UInt8 := be 4 s.length ++ s
def layC (c : Co) : List UInt8 := tx c.den ++ be 8 c.amt ++ tx c.fr ++ tx c.to
def layO (c : Co) : List UInt8 := if rightC c then layC c else []
def layE (c : Co) : Int := if rightC c then 0 else 190
theorem right_parts {c : Co} (h : rightC c = true) : (1 ≤ c.den.length ∧ c.den.length ≤ 128) ∧ (1 ≤ c.fr.length ∧ c.fr.length ≤ 32) ∧ (1 ≤ c.to.length ∧ c.to.length ≤ 32) ∧ 0 < c.amt := by
  unfold rightC okN at h
  simp only [Bool.and_eq_true, decide_eq_true_eq] at h
  omega
theorem tx_length (s : List UInt8) : (tx s).length = 4 + s.length := by unfold tx; rw [List.length_append, be_length]
set_option maxHeartbeats 2000000 in
theorem cLay (c : Co) (w : World) :
    Calls Try.prog 41 #[.agg #[.string ⟨c.den.toArray⟩, .int .u64 c.amt, .string ⟨c.fr.toArray⟩, .string ⟨c.to.toArray⟩]] w fun e w' => e = .returned (.tuple #[.string ⟨(layO c).toArray⟩, .int .i64 (layE c)]) ∧ New w w' := by
  have n1 : New w (w.alloc (.cells #[.string ⟨c.den.toArray⟩, .int .u64 c.amt, .string ⟨c.fr.toArray⟩, .string ⟨c.to.toArray⟩] 41)) := (New.refl w).alloc _
  have q1 : cn (w.alloc (.cells #[.string ⟨c.den.toArray⟩, .int .u64 c.amt, .string ⟨c.fr.toArray⟩, .string ⟨c.to.toArray⟩] 41)) w.heap.size c := heap_alloc_new w _
  have R := fun w => right_any c w
  rcases b1 : rightC c with _ | _
  · have HO : Hid (layO c = []) := by rw [Hid]; unfold layO; rw [b1]; rfl
    have HE : Hid (layE c = 190) := by rw [Hid]; unfold layE; rw [b1]; rfl
    rw [b1] at R
    clear b1
    generalize layO c = out at *
    generalize layE c = oe at *
    go_enter Try.func41, Try.ntmps41
    go_wp2_with fail
    generalize World.alloc w _ = W at *
    generalize w.heap.size = q at *
    refine (R _).mono ?_
    rintro e w2 ⟨rfl, k2⟩
    have n2 := n1.then k2 (fun _ h => h.elim)
    go_wp2_with fail
    go_ret2
    exact ⟨by rw [HO.out, HE.out]; rfl, n2⟩
  · obtain ⟨⟨d1, d2⟩, ⟨f1, f2⟩, ⟨t1, t2⟩, a1⟩ := right_parts b1
    have HO : Hid (layO c = ((([] ++ (be 4 c.den.length ++ c.den)) ++ be 8 c.amt) ++ (be 4 c.fr.length ++ c.fr)) ++ (be 4 c.to.length ++ c.to)) := by
      rw [Hid]; unfold layO layC tx; rw [b1]; simp
    have HE : Hid (layE c = 0) := by rw [Hid]; unfold layE; rw [b1]; rfl
    have L1 : ([] ++ (be 4 c.den.length ++ c.den)).length + 8 ≤ 140737488355328 := by simp [be_length]; omega
    have L2 : (([] ++ (be 4 c.den.length ++ c.den)) ++ be 8 c.amt).length + 4 + c.fr.length ≤ 140737488355328 := by simp [be_length]; omega
    have L3 : ((([] ++ (be 4 c.den.length ++ c.den)) ++ be 8 c.amt) ++ (be 4 c.fr.length ++ c.fr)).length + 4 + c.to.length ≤ 140737488355328 := by simp [be_length]; omega
    rw [b1] at R
    clear b1
    generalize layO c = out at *
    generalize layE c = oe at *
    generalize hx1 : [] ++ (be 4 c.den.length ++ c.den) = x1 at *
    generalize hx2 : x1 ++ be 8 c.amt = x2 at *
    generalize hx3 : x2 ++ (be 4 c.fr.length ++ c.fr) = x3 at *
    have G1 := Lib.hid hx1
    have G2 := Lib.hid hx2
    have G3 := Lib.hid hx3
    clear hx1 hx2 hx3
    go_enter Try.func41, Try.ntmps41
    go_wp2_with fail
    generalize World.alloc w _ = W at *
    generalize w.heap.size = q at *
    refine (R _).mono ?_
    rintro e w2 ⟨rfl, k2⟩
    have n2 := n1.then k2 (fun _ h => h.elim)
    have q2 := q1.keep k2
    clear n1 q1 k2 R
    go_wp2_with fail
    refine (wNew (New.refl w2)).mono ?_
    rintro e w3 ⟨b, rfl, h3⟩
    have d := (q2.keep h3.new).cells
    go_wp2_with fail
    refine (wText h3 c.den (by simp; omega)).mono ?_
    rintro e w4 ⟨rfl, h4⟩
    rw [G1.out] at h4
    have d4 := (q2.keep h4.new).cells
    clear h3 d
    go_wp2_with fail
    refine (wNum h4 c.amt L1).mono ?_
    rintro e w5 ⟨rfl, h5⟩
    rw [G2.out] at h5
    have d5 := (q2.keep h5.new).cells
    clear h4 d4
    go_wp2_with fail
    refine (wText h5 c.fr L2).mono ?_
    rintro e w6 ⟨rfl, h6⟩
    rw [G3.out] at h6
    have d6 := (q2.keep h6.new).cells
    clear h5 d5
    go_wp2_with fail
    refine (wText h6 c.to L3).mono ?_
    rintro e w7 ⟨rfl, h7⟩
    clear h6 d6
    go_wp2_with fail
    refine (wBytes h7).mono ?_
    rintro e w8 ⟨rfl, n8⟩
    have n9 := n2.then n8 (fun _ h => h.elim)
    go_wp2_with fail
    go_ret2
    exact ⟨by rw [HO.out, HE.out]; rfl, n9⟩
end Go.Proofs.Ytcldbipipehedaa
