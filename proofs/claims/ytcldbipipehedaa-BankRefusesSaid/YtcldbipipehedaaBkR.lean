/-
  PLAIN: what an act that is OK leaves of a balance. No walk here.
-/
import Derived.Test.YtcldbipipehedaaSum
namespace Go.Proofs.Ytcldbipipehedaa
/-- what the statement wants of a balance M: k the act's kind, bA: it is whom the act begins with, bB: it is whom it is sent to -/
def wantN (k : Nat) (bA bB : Bool) (M v : Nat) : Nat :=
  if k ≤ 1 then (if bA then addM M v else M) else if k = 2 then (if bA then subM M v else M) else (if bB then addM (if bA then subM M v else M) v else (if bA then subM M v else M))
theorem wantN_mint {k : Nat} (h : k ≤ 1) (bA bB : Bool) (M v : Nat) : wantN k bA bB M v = if bA then addM M v else M := by unfold wantN; rw [if_pos h]
theorem wantN_burn {k : Nat} (h : k = 2) (bA bB : Bool) (M v : Nat) : wantN k bA bB M v = if bA then subM M v else M := by unfold wantN; rw [if_neg (by omega), if_pos h]
theorem wantN_send {k : Nat} (h : 3 ≤ k) (bA bB : Bool) (M v : Nat) : wantN k bA bB M v = if bB then addM (if bA then subM M v else M) v else (if bA then subM M v else M) := by unfold wantN; rw [if_neg (by omega), if_neg (by omega)]
theorem both_true {z fr d v : List UInt8} (h : d = v ∧ z = fr) : (z == fr && d == v) = true := by simp [h]
theorem both_false {z fr d v : List UInt8} (h : ¬ (d = v ∧ z = fr)) : (z == fr && d == v) = false := by
  rcases e : (z == fr && d == v) with _ | _
  · rfl
  · simp at e; exact absurd ⟨e.2, e.1⟩ h
theorem ds_want {s : BkS} {x : A10} (h : dsE s x = 0) (d z : List UInt8) :
    (dsS s x).bal d z = wantN (pk x.what 6) (z == acL (pk x.fr 5) && d == dbL (pk x.den 4)) (z == acL (pk x.to 5) && d == dbL (pk x.den 4)) (s.bal d z) x.n := by
  unfold dsE at h
  unfold dsS
  generalize acL (pk x.fr 5) = fr at *
  generalize acL (pk x.to 5) = tw at *
  generalize dbL (pk x.den 4) = v at *
  by_cases h1 : pk x.what 6 ≤ 1
  · rw [if_pos h1] at h ⊢
    rw [wantN_mint h1]
    unfold mintS
    rw [if_pos h]
    show upd2 s.bal v fr _ d z = _
    unfold upd2
    by_cases e : d = v ∧ z = fr
    · rw [if_pos e, both_true e, if_pos rfl, e.1, e.2]
    · rw [if_neg e, both_false e, if_neg (by decide)]
  · rw [if_neg h1] at h ⊢
    by_cases h2 : pk x.what 6 = 2
    · rw [if_pos h2] at h ⊢
      rw [wantN_burn h2]
      unfold burnS
      rw [if_pos h]
      show upd2 s.bal v fr _ d z = _
      unfold upd2
      by_cases e : d = v ∧ z = fr
      · rw [if_pos e, both_true e, if_pos rfl, e.1, e.2]
      · rw [if_neg e, both_false e, if_neg (by decide)]
    · rw [if_neg h2] at h ⊢
      rw [wantN_send (by omega)]
      unfold sendS
      rw [if_pos h]
      show sendB s fr tw v x.n d z = _
      unfold sendB
      have hin : upd2 s.bal v fr (subM (s.bal v fr) x.n) d z = if (z == fr && d == v) then subM (s.bal d z) x.n else s.bal d z := by
        unfold upd2
        by_cases e : d = v ∧ z = fr
        · rw [if_pos e, both_true e, if_pos rfl, e.1, e.2]
        · rw [if_neg e, both_false e, if_neg (by decide)]
      rw [← hin]
      generalize upd2 s.bal v fr (subM (s.bal v fr) x.n) = f
      unfold upd2
      by_cases e : d = v ∧ z = tw
      · rw [if_pos e, both_true e, if_pos rfl, e.1, e.2]
      · rw [if_neg e, both_false e, if_neg (by decide)]
end Go.Proofs.Ytcldbipipehedaa
