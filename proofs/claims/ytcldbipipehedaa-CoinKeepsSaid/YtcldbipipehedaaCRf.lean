/-
  What is refused changes nothing; what is done changes a supply by the amount, or not at all. A copy of a bank beside it.
-/
import Derived.Test.YtcldbipipehedaaStp
import Derived.Test.YtcldbipipehedaaBk6
namespace Go.Proofs.Ytcldbipipehedaa
open Go.RowKit Go.ChangeMaps
theorem mint_no {s : BkS} {a d : List UInt8} {v : Nat} (h : ¬ mintE s a d v = 0) : mintS s a d v = s := by unfold mintS; rw [if_neg h]
theorem burn_no {s : BkS} {a d : List UInt8} {v : Nat} (h : ¬ burnE s a d v = 0) : burnS s a d v = s := by unfold burnS; rw [if_neg h]
theorem send_no {s : BkS} {a c d : List UInt8} {v : Nat} (h : ¬ sendE s a c d v = 0) : sendS s a c d v = s := by unfold sendS; rw [if_neg h]
theorem out_no {s : BkS} {ch : Nat} {c : Co} (h : ¬ outE s ch c = 0) : outS s ch c = s := by
  unfold outE at h; unfold outS
  by_cases h1 : chkC c = 0
  · rw [if_pos h1] at h ⊢
    by_cases h2 : isHome ch c.den = true
    · rw [if_pos h2] at h ⊢; exact burn_no h
    · rw [if_neg h2] at h ⊢; exact send_no h
  · rw [if_neg h1]
theorem in_no {s : BkS} {ch pe : Nat} {c : Co} (h : ¬ inE s ch pe c = 0) : inS s ch pe c = s := by
  unfold inE at h; unfold inS
  by_cases h1 : chkC c = 0
  · rw [if_pos h1] at h ⊢
    by_cases h2 : isHome pe c.den = true
    · rw [if_pos h2] at h ⊢; exact send_no h
    · rw [if_neg h2] at h ⊢; exact mint_no h
  · rw [if_neg h1]
theorem back_no {s : BkS} {ch : Nat} {c : Co} (h : ¬ backE s ch c = 0) : backS s ch c = s := by
  unfold backE at h; unfold backS
  by_cases h1 : chkC c = 0
  · rw [if_pos h1] at h ⊢
    by_cases h2 : isHome ch c.den = true
    · rw [if_pos h2] at h ⊢; exact mint_no h
    · rw [if_neg h2] at h ⊢; exact send_no h
  · rw [if_neg h1]
theorem st_no {s : BkS} {x : A19} {c : Co} (h : ¬ stE s x c = 0) : stS s x c = s := by
  unfold stE at h; unfold stS
  by_cases h1 : pk x.what 7 ≤ 2
  · rw [if_pos h1] at h ⊢; exact out_no h
  · rw [if_neg h1] at h ⊢
    by_cases h2 : pk x.what 7 ≤ 4
    · rw [if_pos h2] at h ⊢; exact in_no h
    · rw [if_neg h2] at h ⊢; exact back_no h
/-- one number is the other, or they are v apart -/
def apart (m n v : Nat) : Prop := m = n ∨ ((m : Int) - n) % 18446744073709551616 = v ∨ ((n : Int) - m) % 18446744073709551616 = v
theorem mint_apart {s : BkS} (a d : List UInt8) {v : Nat} (hv : U64 v) (u : List UInt8) : apart (s.sup u) ((mintS s a d v).sup u) v := by
  have hv1 : v < 18446744073709551616 := hv
  unfold mintS
  by_cases h : mintE s a d v = 0
  · rw [if_pos h]
    show apart (s.sup u) (upd1 s.sup d (s.sup d + v) u) v
    unfold upd1 apart
    by_cases hu : u = d
    · rw [if_pos hu, hu]; right; right; omega
    · rw [if_neg hu]; left; rfl
  · rw [if_neg h]; left; rfl
theorem burn_apart {s : BkS} (a d : List UInt8) {v : Nat} (hv : U64 v) (u : List UInt8) : apart (s.sup u) ((burnS s a d v).sup u) v := by
  have hv1 : v < 18446744073709551616 := hv
  unfold burnS
  by_cases h : burnE s a d v = 0
  · rw [if_pos h]
    show apart (s.sup u) (upd1 s.sup d (subM (s.sup d) v) u) v
    unfold upd1 apart subM
    by_cases hu : u = d
    · rw [if_pos hu, hu]; right; left; omega
    · rw [if_neg hu]; left; rfl
  · rw [if_neg h]; left; rfl
theorem send_apart {s : BkS} (a c d : List UInt8) (v : Nat) (u : List UInt8) : apart (s.sup u) ((sendS s a c d v).sup u) v := by
  unfold sendS
  by_cases h : sendE s a c d v = 0
  · rw [if_pos h]; left; rfl
  · rw [if_neg h]; left; rfl
theorem st_apart (s : BkS) (x : A19) (c : Co) (hv : U64 c.amt) (u : List UInt8) : apart (s.sup u) ((stS s x c).sup u) c.amt := by
  unfold stS outS inS backS
  by_cases h0 : chkC c = 0
  · simp only [if_pos h0]
    by_cases h1 : pk x.what 7 ≤ 2
    · rw [if_pos h1]
      split
      · exact burn_apart _ _ hv u
      · exact send_apart _ _ _ _ u
    · rw [if_neg h1]
      by_cases h2 : pk x.what 7 ≤ 4
      · rw [if_pos h2]
        split
        · exact send_apart _ _ _ _ u
        · exact mint_apart _ _ hv u
      · rw [if_neg h2]
        split
        · exact mint_apart _ _ hv u
        · exact send_apart _ _ _ _ u
  · simp only [if_neg h0]
    split
    · left; rfl
    · split <;> (left; rfl)
theorem prCopy {w0 w : World} {a n : Nat} {s : BkS} (h : Sg w0 w a n s) :
    Calls Try.prog 40 #[.pointer (some ⟨a, 0, none⟩)] w fun e w' => ∃ b, e = .returned (.pointer (some ⟨b, 0, none⟩)) ∧ Pr w0 w' a b n s s ∧ KC w w' := by
  obtain ⟨ma, sa, h1, h2, h3, h4, h5⟩ := h
  refine (copy_any a ma sa n s w h1).mono fun _ _ ⟨b', mb', ms', he, hb, k, z1, z2, z3⟩ => ?_
  have a1 := (Array.getElem?_eq_some_iff.1 h1.blk).1
  have a2 := h1.mp.lt
  have a3 := h1.su.lt
  have sz := h2.size
  exact ⟨b', he, ⟨ma, sa, mb', ms', h1.keep k, hb, h2.then k (fun _ h => h.elim), ⟨h3, h4, h5⟩, ⟨by omega, by omega, by omega⟩, ⟨by omega, by omega, by omega⟩, ⟨by omega, by omega, by omega⟩, by omega, by omega⟩, KC.of_new k⟩
def xV1 : List UInt8 := [116, 114, 97, 110, 115, 102, 101, 114, 47, 49, 47, 103, 111, 108, 100]
def rf1 : BkS := mintS emptyB xAnn xGold 1000
theorem rf_e1 : mintE emptyB xAnn xGold 1000 = 0 := by decide +kernel
theorem rf_e2 : mintE rf1 xAnn xV1 1000 = 0 := by decide +kernel
end Go.Proofs.Ytcldbipipehedaa
