/-
  PLAIN: what was done may be done back; what is done in two parts is done in one. No walk here.
-/
import Derived.Test.YtcldbipipehedaaSum
import Derived.Test.YtcldbipipehedaaKpV
namespace Go.Proofs.Ytcldbipipehedaa
theorem bk_ext {s t : BkS} (h1 : ∀ u, s.sup u = t.sup u) (h2 : ∀ u a, s.bal u a = t.bal u a) : s = t := by
  obtain ⟨b1, s1⟩ := s
  obtain ⟨b2, s2⟩ := t
  have e1 : s1 = s2 := funext h1
  have e2 : b1 = b2 := funext fun u => funext (h2 u)
  rw [e1, e2]
theorem chk_swap {v : Nat} {d a c : List UInt8} (h : chkE v d [a, c] = 0) : chkE v d [c, a] = 0 := by
  obtain ⟨h0, h1, h2, h3⟩ := chk_zero h
  exact chk_two (by omega) ⟨h1, h2⟩ (h3 c (by simp)) (h3 a (by simp))
theorem chk_pos {v n : Nat} (hv : v ≠ 0) (hn : n ≠ 0) (d : List UInt8) (xs : List (List UInt8)) : chkE v d xs = chkE n d xs := by
  unfold chkE
  rw [if_neg hv, if_neg hn]
theorem mint_iff {s : BkS} {a d : List UInt8} {v : Nat} : mintE s a d v = 0 ↔ chkE v d [a] = 0 ∧ s.sup d + v < 18446744073709551616 := by
  constructor
  · intro h; obtain ⟨h1, h2, h3⟩ := mint_ok h; exact ⟨h3, h1⟩
  · rintro ⟨h1, h2⟩
    unfold mintE
    rw [if_pos h1, if_neg]
    unfold overA; simp; omega
theorem burn_iff {s : BkS} {a d : List UInt8} {v : Nat} : burnE s a d v = 0 ↔ chkE v d [a] = 0 ∧ v ≤ s.bal d a := by
  constructor
  · intro h; obtain ⟨h1, h2, h3⟩ := burn_ok2 h; exact ⟨h3, h1⟩
  · rintro ⟨h1, h2⟩
    unfold burnE
    rw [if_pos h1, if_neg (by omega)]
theorem send_iff {s : BkS} {a c d : List UInt8} {v : Nat} : sendE s a c d v = 0 ↔ chkE v d [a, c] = 0 ∧ v ≤ s.bal d a := by
  constructor
  · intro h; obtain ⟨h1, h2, h3, h4⟩ := send_ok2 h; exact ⟨h4, h1⟩
  · rintro ⟨h1, h2⟩
    unfold sendE
    rw [if_pos h1, if_neg (by omega)]
/-- what a Mint, a Burn, a Send that are OK leave, in numbers -/
theorem mint_is {s : BkS} (h : SumI s) {a d : List UInt8} {v : Nat} (hE : mintE s a d v = 0) (u b : List UInt8) :
    (mintS s a d v).sup u = (if u = d then s.sup d + v else s.sup u) ∧ (mintS s a d v).bal u b = (if u = d ∧ b = a then s.bal d a + v else s.bal u b) := by
  have hle := h.le d a
  obtain ⟨h1, -, -⟩ := mint_ok hE
  obtain ⟨q1, q2, q3⟩ := mint_at hE (by omega)
  by_cases hu : u = d
  · subst hu
    rw [if_pos rfl]
    refine ⟨q1, ?_⟩
    by_cases hb : b = a
    · rw [if_pos ⟨rfl, hb⟩, hb]; exact q2
    · rw [if_neg (fun e => hb e.2)]; exact q3 b hb
  · rw [if_neg hu, if_neg (fun e => hu e.1)]
    exact ⟨(mint_far hu).1, (mint_far hu).2 b⟩
theorem burn_is {s : BkS} (h : SumI s) {a d : List UInt8} {v : Nat} (hE : burnE s a d v = 0) (u b : List UInt8) :
    (burnS s a d v).sup u = (if u = d then s.sup d - v else s.sup u) ∧ (burnS s a d v).bal u b = (if u = d ∧ b = a then s.bal d a - v else s.bal u b) := by
  have hle := h.le d a
  have hlt := h.lt d
  obtain ⟨h1, -, -⟩ := burn_ok2 hE
  obtain ⟨q1, q2, q3⟩ := burn_at hE h1 (by omega) (by omega) (by omega)
  by_cases hu : u = d
  · subst hu
    rw [if_pos rfl]
    refine ⟨q1, ?_⟩
    by_cases hb : b = a
    · rw [if_pos ⟨rfl, hb⟩, hb]; exact q2
    · rw [if_neg (fun e => hb e.2)]; exact q3 b hb
  · rw [if_neg hu, if_neg (fun e => hu e.1)]
    exact ⟨(burn_far hu).1, (burn_far hu).2 b⟩
theorem send_is {s : BkS} (h : SumI s) {a c d : List UInt8} (hac : a ≠ c) {v : Nat} (hE : sendE s a c d v = 0) (u b : List UInt8) :
    (sendS s a c d v).bal u b = (if u = d ∧ b = a then s.bal d a - v else if u = d ∧ b = c then s.bal d c + v else s.bal u b) := by
  have hle := h.two d hac
  have hlt := h.lt d
  obtain ⟨h1, -, -⟩ := send_ok2 hE
  obtain ⟨q1, q2, q3⟩ := send_at hE h1 hac (by omega) (by omega)
  by_cases hu : u = d
  · subst hu
    by_cases hb : b = a
    · rw [if_pos ⟨rfl, hb⟩, hb]; exact q1
    · rw [if_neg (fun e => hb e.2)]
      by_cases hb2 : b = c
      · rw [if_pos ⟨rfl, hb2⟩, hb2]; exact q2
      · rw [if_neg (fun e => hb2 e.2)]; exact q3 b hb hb2
  · rw [if_neg (fun e => hu e.1), if_neg (fun e => hu e.1)]
    exact send_far hu b
/-- minted, then burnt -/
theorem mint_burn {s : BkS} (h : SumI s) {a d : List UInt8} {v : Nat} (hE : mintE s a d v = 0) : burnE (mintS s a d v) a d v = 0 ∧ burnS (mintS s a d v) a d v = s := by
  have hm := h.mint a d v
  obtain ⟨k1, k2⟩ := mint_is h hE d a
  rw [if_pos rfl] at k1
  rw [if_pos ⟨rfl, rfl⟩] at k2
  have hB : burnE (mintS s a d v) a d v = 0 := burn_iff.2 ⟨(mint_iff.1 hE).1, by rw [k2]; omega⟩
  refine ⟨hB, bk_ext (fun u => ?_) fun u b => ?_⟩
  · rw [(burn_is hm hB u a).1, k1, (mint_is h hE u a).1]
    split
    · rename_i e; rw [e]; omega
    · rfl
  · rw [(burn_is hm hB u b).2, k2, (mint_is h hE u b).2]
    split
    · rename_i e; rw [e.1, e.2]; omega
    · rfl
/-- burnt, then minted -/
theorem burn_mint {s : BkS} (h : SumI s) {a d : List UInt8} {v : Nat} (hE : burnE s a d v = 0) : mintE (burnS s a d v) a d v = 0 ∧ mintS (burnS s a d v) a d v = s := by
  have hm := h.burn a d v
  have hle := h.le d a
  have hlt := h.lt d
  have hv := (burn_iff.1 hE).2
  obtain ⟨k1, k2⟩ := burn_is h hE d a
  rw [if_pos rfl] at k1
  rw [if_pos ⟨rfl, rfl⟩] at k2
  have hB : mintE (burnS s a d v) a d v = 0 := mint_iff.2 ⟨(burn_iff.1 hE).1, by rw [k1]; omega⟩
  refine ⟨hB, bk_ext (fun u => ?_) fun u b => ?_⟩
  · rw [(mint_is hm hB u a).1, k1, (burn_is h hE u a).1]
    split
    · rename_i e; rw [e]; omega
    · rfl
  · rw [(mint_is hm hB u b).2, k2, (burn_is h hE u b).2]
    split
    · rename_i e; rw [e.1, e.2]; omega
    · rfl
/-- sent, then sent back -/
theorem send_back {s : BkS} (h : SumI s) {a c d : List UInt8} {v : Nat} (hE : sendE s a c d v = 0) : sendE (sendS s a c d v) c a d v = 0 ∧ sendS (sendS s a c d v) c a d v = s := by
  have hm := h.send a c d v
  have hv := (send_iff.1 hE).2
  have hle := h.le d a
  have hlt := h.lt d
  by_cases hac : a = c
  · subst hac
    have e : sendS s a a d v = s := by
      refine bk_ext (fun u => send_sup _ _ _ _ _ _) fun u b => ?_
      by_cases hu : u = d
      · subst hu; exact send_self hv (by omega) b
      · exact send_far hu b
    rw [e]
    exact ⟨hE, e⟩
  · have k2 := send_is h hac hE d c
    rw [if_neg (fun e => hac e.2.symm), if_pos ⟨rfl, rfl⟩] at k2
    have k1 := send_is h hac hE d a
    rw [if_pos ⟨rfl, rfl⟩] at k1
    have hB : sendE (sendS s a c d v) c a d v = 0 := send_iff.2 ⟨chk_swap (send_iff.1 hE).1, by rw [k2]; omega⟩
    refine ⟨hB, bk_ext (fun u => by rw [send_sup, send_sup]) fun u b => ?_⟩
    rw [send_is hm (Ne.symm hac) hB u b, k1, k2, send_is h hac hE u b]
    by_cases h1 : u = d ∧ b = c
    · rw [if_pos h1, h1.1, h1.2]; omega
    · rw [if_neg h1]
      by_cases h2 : u = d ∧ b = a
      · rw [if_pos h2, h2.1, h2.2]; omega
      · rw [if_neg h2, if_neg h2, if_neg h1]
/-- what is minted in two parts is minted in one -/
theorem mint_split {s : BkS} (h : SumI s) {a d : List UInt8} {v n : Nat} (hv : v ≠ 0) (hn : n ≠ 0) :
    (mintE s a d (v + n) = 0 ↔ mintE s a d v = 0 ∧ mintE (mintS s a d v) a d n = 0) ∧ (mintE s a d (v + n) = 0 → mintS s a d (v + n) = mintS (mintS s a d v) a d n) := by
  have c1 := chk_pos (v := v + n) (n := v) (by omega) hv d [a]
  have c2 := chk_pos (v := n) (n := v) hn hv d [a]
  have hi : mintE s a d (v + n) = 0 ↔ mintE s a d v = 0 ∧ mintE (mintS s a d v) a d n = 0 := by
    constructor
    · intro hE
      obtain ⟨q1, q2⟩ := mint_iff.1 hE
      have hE1 : mintE s a d v = 0 := mint_iff.2 ⟨by rw [← c1]; exact q1, by omega⟩
      have k1 := (mint_is h hE1 d a).1
      rw [if_pos rfl] at k1
      exact ⟨hE1, mint_iff.2 ⟨by rw [c2, ← c1]; exact q1, by rw [k1]; omega⟩⟩
    · rintro ⟨hE1, hE2⟩
      obtain ⟨q1, q2⟩ := mint_iff.1 hE1
      obtain ⟨q3, q4⟩ := mint_iff.1 hE2
      have k1 := (mint_is h hE1 d a).1
      rw [if_pos rfl] at k1
      rw [k1] at q4
      exact mint_iff.2 ⟨by rw [c1]; exact q1, by omega⟩
  refine ⟨hi, fun hE => ?_⟩
  obtain ⟨hE1, hE2⟩ := hi.1 hE
  have hm := h.mint a d v
  obtain ⟨k1, k2⟩ := mint_is h hE1 d a
  rw [if_pos rfl] at k1
  rw [if_pos ⟨rfl, rfl⟩] at k2
  refine bk_ext (fun u => ?_) fun u b => ?_
  · rw [(mint_is hm hE2 u a).1, k1, (mint_is h hE1 u a).1, (mint_is h hE u a).1]
    split
    · omega
    · rfl
  · rw [(mint_is hm hE2 u b).2, k2, (mint_is h hE1 u b).2, (mint_is h hE u b).2]
    split
    · omega
    · rfl
theorem burn_split {s : BkS} (h : SumI s) {a d : List UInt8} {v n : Nat} (hv : v ≠ 0) (hn : n ≠ 0) :
    (burnE s a d (v + n) = 0 ↔ burnE s a d v = 0 ∧ burnE (burnS s a d v) a d n = 0) ∧ (burnE s a d (v + n) = 0 → burnS s a d (v + n) = burnS (burnS s a d v) a d n) := by
  have c1 := chk_pos (v := v + n) (n := v) (by omega) hv d [a]
  have c2 := chk_pos (v := n) (n := v) hn hv d [a]
  have hi : burnE s a d (v + n) = 0 ↔ burnE s a d v = 0 ∧ burnE (burnS s a d v) a d n = 0 := by
    constructor
    · intro hE
      obtain ⟨q1, q2⟩ := burn_iff.1 hE
      have hE1 : burnE s a d v = 0 := burn_iff.2 ⟨by rw [← c1]; exact q1, by omega⟩
      have k1 := (burn_is h hE1 d a).2
      rw [if_pos ⟨rfl, rfl⟩] at k1
      exact ⟨hE1, burn_iff.2 ⟨by rw [c2, ← c1]; exact q1, by rw [k1]; omega⟩⟩
    · rintro ⟨hE1, hE2⟩
      obtain ⟨q1, q2⟩ := burn_iff.1 hE1
      obtain ⟨q3, q4⟩ := burn_iff.1 hE2
      have k1 := (burn_is h hE1 d a).2
      rw [if_pos ⟨rfl, rfl⟩] at k1
      rw [k1] at q4
      exact burn_iff.2 ⟨by rw [c1]; exact q1, by omega⟩
  refine ⟨hi, fun hE => ?_⟩
  obtain ⟨hE1, hE2⟩ := hi.1 hE
  have hm := h.burn a d v
  obtain ⟨k1, k2⟩ := burn_is h hE1 d a
  rw [if_pos rfl] at k1
  rw [if_pos ⟨rfl, rfl⟩] at k2
  refine bk_ext (fun u => ?_) fun u b => ?_
  · rw [(burn_is hm hE2 u a).1, k1, (burn_is h hE1 u a).1, (burn_is h hE u a).1]
    split
    · omega
    · rfl
  · rw [(burn_is hm hE2 u b).2, k2, (burn_is h hE1 u b).2, (burn_is h hE u b).2]
    split
    · omega
    · rfl
theorem send_split {s : BkS} (h : SumI s) {a c d : List UInt8} (hac : a ≠ c) {v n : Nat} (hv : v ≠ 0) (hn : n ≠ 0) :
    (sendE s a c d (v + n) = 0 ↔ sendE s a c d v = 0 ∧ sendE (sendS s a c d v) a c d n = 0) ∧ (sendE s a c d (v + n) = 0 → sendS s a c d (v + n) = sendS (sendS s a c d v) a c d n) := by
  have c1 := chk_pos (v := v + n) (n := v) (by omega) hv d [a, c]
  have c2 := chk_pos (v := n) (n := v) hn hv d [a, c]
  have hi : sendE s a c d (v + n) = 0 ↔ sendE s a c d v = 0 ∧ sendE (sendS s a c d v) a c d n = 0 := by
    constructor
    · intro hE
      obtain ⟨q1, q2⟩ := send_iff.1 hE
      have hE1 : sendE s a c d v = 0 := send_iff.2 ⟨by rw [← c1]; exact q1, by omega⟩
      have k1 := send_is h hac hE1 d a
      rw [if_pos ⟨rfl, rfl⟩] at k1
      exact ⟨hE1, send_iff.2 ⟨by rw [c2, ← c1]; exact q1, by rw [k1]; omega⟩⟩
    · rintro ⟨hE1, hE2⟩
      obtain ⟨q1, q2⟩ := send_iff.1 hE1
      obtain ⟨q3, q4⟩ := send_iff.1 hE2
      have k1 := send_is h hac hE1 d a
      rw [if_pos ⟨rfl, rfl⟩] at k1
      rw [k1] at q4
      exact send_iff.2 ⟨by rw [c1]; exact q1, by omega⟩
  refine ⟨hi, fun hE => ?_⟩
  obtain ⟨hE1, hE2⟩ := hi.1 hE
  have hm := h.send a c d v
  have k1 := send_is h hac hE1 d a
  rw [if_pos ⟨rfl, rfl⟩] at k1
  have k2 := send_is h hac hE1 d c
  rw [if_neg (fun e => hac e.2.symm), if_pos ⟨rfl, rfl⟩] at k2
  refine bk_ext (fun u => by rw [send_sup, send_sup, send_sup]) fun u b => ?_
  rw [send_is hm hac hE2 u b, k1, k2, send_is h hac hE1 u b, send_is h hac hE u b]
  split
  · omega
  · split
    · omega
    · rfl
/-- an act with another amount -/
def A10.with (x : A10) (n : Nat) : A10 := ⟨x.what, x.fr, x.to, x.den, n⟩
theorem does_split {s : BkS} (h : SumI s) (x : A10) {v n : Nat} (hv : v ≠ 0) (hn : n ≠ 0) (hac : 2 < pk x.what 6 → acL (pk x.fr 5) ≠ acL (pk x.to 5)) :
    (dsE s (x.with (v + n)) = 0 ↔ dsE s (x.with v) = 0 ∧ dsE (dsS s (x.with v)) (x.with n) = 0) ∧ (dsE s (x.with (v + n)) = 0 → dsS s (x.with (v + n)) = dsS (dsS s (x.with v)) (x.with n)) := by
  unfold dsE dsS A10.with
  simp only
  by_cases h1 : pk x.what 6 ≤ 1
  · simp only [if_pos h1]; exact mint_split h hv hn
  · simp only [if_neg h1]
    by_cases h2 : pk x.what 6 = 2
    · simp only [if_pos h2]; exact burn_split h hv hn
    · simp only [if_neg h2]; exact send_split h (hac (by omega)) hv hn
end Go.Proofs.Ytcldbipipehedaa
