/-
  PLAIN: what mint, burn and send leave alone, and what they make where they are done. No walk here.
-/
import Derived.Test.YtcldbipipehedaaCRf
namespace Go.Proofs.Ytcldbipipehedaa
theorem mint_far {s : BkS} {a d : List UInt8} {v : Nat} {u : List UInt8} (h : u ≠ d) : (mintS s a d v).sup u = s.sup u ∧ ∀ b, (mintS s a d v).bal u b = s.bal u b := by
  unfold mintS
  split
  · exact ⟨if_neg h, fun b => if_neg (fun e => h e.1)⟩
  · exact ⟨rfl, fun _ => rfl⟩
theorem burn_far {s : BkS} {a d : List UInt8} {v : Nat} {u : List UInt8} (h : u ≠ d) : (burnS s a d v).sup u = s.sup u ∧ ∀ b, (burnS s a d v).bal u b = s.bal u b := by
  unfold burnS
  split
  · exact ⟨if_neg h, fun b => if_neg (fun e => h e.1)⟩
  · exact ⟨rfl, fun _ => rfl⟩
theorem send_sup (s : BkS) (a c d : List UInt8) (v : Nat) (u : List UInt8) : (sendS s a c d v).sup u = s.sup u := by
  unfold sendS; split <;> rfl
theorem mint_at {s : BkS} {a d : List UInt8} {v : Nat} (h : mintE s a d v = 0) (hb : s.bal d a + v < 18446744073709551616) :
    (mintS s a d v).sup d = s.sup d + v ∧ (mintS s a d v).bal d a = s.bal d a + v ∧ ∀ b, b ≠ a → (mintS s a d v).bal d b = s.bal d b := by
  unfold mintS
  rw [if_pos h]
  refine ⟨if_pos rfl, ?_, fun b hb => if_neg (fun e => hb e.2)⟩
  show upd2 s.bal d a (addM (s.bal d a) v) d a = _
  unfold upd2 addM
  rw [if_pos ⟨rfl, rfl⟩]; omega
theorem burn_at {s : BkS} {a d : List UInt8} {v : Nat} (h : burnE s a d v = 0) (hv : v ≤ s.bal d a) (hs : v ≤ s.sup d) (h1 : s.bal d a < 18446744073709551616) (h2 : s.sup d < 18446744073709551616) :
    (burnS s a d v).sup d = s.sup d - v ∧ (burnS s a d v).bal d a = s.bal d a - v ∧ ∀ b, b ≠ a → (burnS s a d v).bal d b = s.bal d b := by
  unfold burnS
  rw [if_pos h]
  refine ⟨?_, ?_, fun b hb => if_neg (fun e => hb e.2)⟩
  · show upd1 s.sup d (subM (s.sup d) v) d = _
    unfold upd1 subM
    rw [if_pos rfl]; omega
  · show upd2 s.bal d a (subM (s.bal d a) v) d a = _
    unfold upd2 subM
    rw [if_pos ⟨rfl, rfl⟩]; omega
theorem send_far {s : BkS} {a c d : List UInt8} {v : Nat} {u : List UInt8} (h : u ≠ d) (b : List UInt8) : (sendS s a c d v).bal u b = s.bal u b := by
  unfold sendS
  split
  · show sendB s a c d v u b = _
    unfold sendB upd2
    rw [if_neg (fun e => h e.1), if_neg (fun e => h e.1)]
  · rfl
theorem send_at {s : BkS} {a c d : List UInt8} {v : Nat} (h : sendE s a c d v = 0) (hv : v ≤ s.bal d a) (hac : a ≠ c) (h1 : s.bal d a < 18446744073709551616) (h2 : s.bal d c + v < 18446744073709551616) :
    (sendS s a c d v).bal d a = s.bal d a - v ∧ (sendS s a c d v).bal d c = s.bal d c + v ∧ ∀ b, b ≠ a → b ≠ c → (sendS s a c d v).bal d b = s.bal d b := by
  unfold sendS
  rw [if_pos h]
  refine ⟨?_, ?_, fun b hb hc => ?_⟩
  · show sendB s a c d v d a = _
    unfold sendB upd2 subM
    rw [if_neg (fun e => hac e.2), if_pos ⟨rfl, rfl⟩]; omega
  · show sendB s a c d v d c = _
    unfold sendB addM
    rw [show ∀ f x, upd2 f d c x d c = x from fun f x => if_pos ⟨rfl, rfl⟩, show ∀ x, upd2 s.bal d a x d c = s.bal d c from fun x => if_neg (fun e => hac e.2.symm)]; omega
  · show sendB s a c d v d b = _
    unfold sendB upd2
    rw [if_neg (fun e => hc e.2), if_neg (fun e => hb e.2)]
theorem send_self {s : BkS} {a d : List UInt8} {v : Nat} (hv : v ≤ s.bal d a) (h1 : s.bal d a < 18446744073709551616) (b : List UInt8) : (sendS s a a d v).bal d b = s.bal d b := by
  unfold sendS
  split
  · show sendB s a a d v d b = _
    unfold sendB upd2 addM subM
    by_cases hb : b = a
    · subst hb; simp only [and_self, if_true]; omega
    · rw [if_neg (fun e => hb e.2), if_neg (fun e => hb e.2)]
  · rfl
end Go.Proofs.Ytcldbipipehedaa
