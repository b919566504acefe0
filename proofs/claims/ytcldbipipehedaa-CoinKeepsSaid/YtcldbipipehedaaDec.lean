/-
  PLAIN LAWS ON DECIMAL DIGITS. No program in sight.
-/
import Derived.Test.YtcldbipipehedaaMath
namespace Go.Proofs.Ytcldbipipehedaa

def dig (d : Nat) : UInt8 := UInt8.ofNat (48 + d)
theorem dig_toNat {d : Nat} (h : d < 10) : (dig d).toNat = 48 + d := by
  unfold dig; rw [UInt8.toNat_ofNat']; omega
/-- n, by digits -/
def dec (n : Nat) : List UInt8 := if n < 10 then [dig n] else dec (n / 10) ++ [dig (n % 10)]
termination_by n
decreasing_by omega
theorem dec_lt {n : Nat} (h : n < 10) : dec n = [dig n] := by rw [dec, if_pos h]
theorem dec_ge {n : Nat} (h : ¬ n < 10) : dec n = dec (n / 10) ++ [dig (n % 10)] := by rw [dec, if_neg h]
theorem dec_pos (n : Nat) : 0 < (dec n).length := by
  by_cases h : n < 10
  · rw [dec_lt h]; simp
  · rw [dec_ge h]; simp
theorem dec_len : ∀ k n, n < 10 ^ (k + 1) → (dec n).length ≤ k + 1 := by
  intro k
  induction k with
  | zero => intro n h; rw [dec_lt (by simpa using h)]; simp
  | succ k ih =>
    intro n h
    by_cases h1 : n < 10
    · rw [dec_lt h1]; simp
    · rw [dec_ge h1, List.length_append, List.length_singleton]
      have := ih (n / 10) (by rw [Nat.div_lt_iff_lt_mul (by omega), ← Nat.pow_succ]; exact h)
      omega
theorem dec_len64 {n : Nat} (h : U64 n) : (dec n).length ≤ 20 := dec_len 19 n (Nat.lt_of_lt_of_le h.lt (by decide))
theorem dec_digits (n : Nat) : ∀ c ∈ dec n, 48 ≤ c.toNat ∧ c.toNat ≤ 57 := by
  induction n using Nat.strongRecOn with
  | _ n ih =>
    intro c hc
    by_cases h : n < 10
    · rw [dec_lt h] at hc
      obtain rfl := List.mem_singleton.1 hc
      rw [dig_toNat h]; omega
    · rw [dec_ge h] at hc
      rcases List.mem_append.1 hc with hc | hc
      · exact ih _ (by omega) c hc
      · obtain rfl := List.mem_singleton.1 hc
        rw [dig_toNat (by omega)]; omega
theorem dec_slash (n : Nat) : (47 : UInt8) ∉ dec n := fun h => by
  have := (dec_digits n 47 h).1
  exact absurd this (by decide)
/-- what digits spell -/
def dval (l : List UInt8) : Nat := l.foldl (fun n c => 10 * n + (c.toNat - 48)) 0
theorem dval_snoc (l : List UInt8) (c : UInt8) : dval (l ++ [c]) = 10 * dval l + (c.toNat - 48) := by simp [dval, List.foldl_append]
theorem dval_dec (n : Nat) : dval (dec n) = n := by
  induction n using Nat.strongRecOn with
  | _ n ih =>
    by_cases h : n < 10
    · rw [dec_lt h, show [dig n] = [] ++ [dig n] from rfl, dval_snoc, dig_toNat h]
      simp [dval]
    · rw [dec_ge h, dval_snoc, ih _ (by omega), dig_toNat (by omega)]
      omega
theorem dec_inj {a b : Nat} (h : dec a = dec b) : a = b := by rw [← dval_dec a, ← dval_dec b, h]

/-- what stands ahead of the first slash is one, where neither has a slash -/
theorem slash_head : ∀ {a b x y : List UInt8}, (47 : UInt8) ∉ a → (47 : UInt8) ∉ b → a ++ (47 :: x) = b ++ (47 :: y) → a = b ∧ x = y := by
  intro a
  induction a with
  | nil =>
    intro b x y _ hb h
    rcases b with _ | ⟨c, b⟩
    · simp at h; exact ⟨rfl, h⟩
    · simp at h
      exact absurd (by simp [h.1]) hb
  | cons c a ih =>
    intro b x y ha hb h
    rcases b with _ | ⟨d, b⟩
    · simp at h
      exact absurd (by simp [h.1]) ha
    · simp only [List.cons_append, List.cons.injEq] at h
      obtain ⟨h1, h2⟩ := ih (fun m => ha (.tail _ m)) (fun m => hb (.tail _ m)) h.2
      exact ⟨by rw [h.1, h1], h2⟩

/-! the names of transfers -/
def sTransfer : List UInt8 := [116, 114, 97, 110, 115, 102, 101, 114, 47]
def sEscrow : List UInt8 := [101, 115, 99, 114, 111, 119, 47]
/-- what stands ahead of what came over a channel -/
def traceL (c : Nat) : List UInt8 := sTransfer ++ dec c ++ [47]
def escL (c : Nat) : List UInt8 := sEscrow ++ dec c
def vouL (c : Nat) (d : List UInt8) : List UInt8 := traceL c ++ d
def isHome (c : Nat) (d : List UInt8) : Bool := (traceL c).isPrefixOf d
def homeL (c : Nat) (d : List UInt8) : List UInt8 := if isHome c d then d.drop (traceL c).length else []
theorem isHome_iff {c : Nat} {d : List UInt8} : isHome c d = true ↔ ∃ r, d = vouL c r := by
  unfold isHome vouL
  rw [List.isPrefixOf_iff_prefix]
  constructor
  · rintro ⟨r, h⟩; exact ⟨r, h.symm⟩
  · rintro ⟨r, h⟩; exact ⟨r, h.symm⟩
theorem isHome_vou (c : Nat) (d : List UInt8) : isHome c (vouL c d) = true := isHome_iff.2 ⟨d, rfl⟩
theorem homeL_vou (c : Nat) (d : List UInt8) : homeL c (vouL c d) = d := by
  unfold homeL
  rw [if_pos (isHome_vou c d)]
  unfold vouL
  exact List.drop_left
theorem vouL_inj {a b : Nat} {x y : List UInt8} (h : vouL a x = vouL b y) : a = b ∧ x = y := by
  unfold vouL traceL at h
  simp only [List.append_assoc] at h
  have h2 := List.append_cancel_left h
  obtain ⟨h3, h4⟩ := slash_head (dec_slash a) (dec_slash b) (by simpa using h2)
  exact ⟨dec_inj h3, h4⟩
theorem isHome_vou_iff (a b : Nat) (d : List UInt8) : isHome b (vouL a d) = decide (a = b) := by
  by_cases h : a = b
  · subst h; rw [isHome_vou]; simp
  · rw [decide_eq_false h]
    rcases hh : isHome b (vouL a d) with _ | _
    · rfl
    · obtain ⟨r, e⟩ := isHome_iff.1 hh
      exact absurd (vouL_inj e).1 h
theorem homeL_back {c : Nat} {d : List UInt8} (h : isHome c d = true) : vouL c (homeL c d) = d := by
  obtain ⟨r, rfl⟩ := isHome_iff.1 h
  rw [homeL_vou]
theorem homeL_no {c : Nat} {d : List UInt8} (h : isHome c d = false) : homeL c d = [] := by unfold homeL; rw [h]; rfl
theorem escL_inj {a b : Nat} (h : escL a = escL b) : a = b := dec_inj (List.append_cancel_left h)
theorem traceL_length (c : Nat) : (traceL c).length = 10 + (dec c).length := by simp [traceL, sTransfer]; omega
theorem escL_length (c : Nat) : (escL c).length = 7 + (dec c).length := by simp [escL, sEscrow]; omega
end Go.Proofs.Ytcldbipipehedaa
