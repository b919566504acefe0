/-
  PLAIN: ends of two chains, with all that ever stood at each number: what the steps keep. No program in sight.
-/
import Derived.Test.YtclldibadmnppaaMath
namespace Go.Proofs.Ytclldibadmnppaa
/-- an end -/
structure Ln where
  st : Nat
  cl : Nat
  pe : Nat
  pc : Nat
theorem Ln.ext4 {a b : Ln} (h1 : a.st = b.st) (h2 : a.cl = b.cl) (h3 : a.pe = b.pe) (h4 : a.pc = b.pc) : a = b := by
  cases a; cases b; simp only at h1 h2 h3 h4; subst h1 h2 h3 h4; rfl
def eqLn (a b : Ln) : Bool := a.st == b.st && a.cl == b.cl && a.pe == b.pe && a.pc == b.pc
theorem eqLn_iff {a b : Ln} : eqLn a b = true ↔ a = b := by
  unfold eqLn
  simp only [Bool.and_eq_true, beq_iff_eq]
  constructor
  · rintro ⟨⟨⟨h1, h2⟩, h3⟩, h4⟩; exact Ln.ext4 h1 h2 h3 h4
  · rintro rfl; exact ⟨⟨⟨rfl, rfl⟩, rfl⟩, rfl⟩
/-- what ever stood at each number of each chain, the newest one last -/
abbrev His := Nat → List (List Ln)
def ln0 : Ln := ⟨0, 0, 0, 0⟩
def lastL (h : List Ln) : Ln := h.getLastD ln0
def upd {α : Type} (f : Nat → α) (c : Nat) (x : α) : Nat → α := fun d => if d = c then x else f d
theorem upd_at {α : Type} (f : Nat → α) (c : Nat) (x : α) : upd f c x c = x := if_pos rfl
theorem upd_ne {α : Type} (f : Nat → α) {c d : Nat} (x : α) (h : d ≠ c) : upd f c x d = f d := if_neg h
def stood (w : His) (c n : Nat) (l : Ln) : Prop := ∃ h, (w c)[n]? = some h ∧ l ∈ h
def stoodB (w : His) (c n : Nat) (l : Ln) : Bool := match (w c)[n]? with
  | none => false
  | some h => h.any (fun x => eqLn x l)
theorem stoodB_iff {w : His} {c n : Nat} {l : Ln} : stoodB w c n l = true ↔ stood w c n l := by
  unfold stoodB stood
  cases e : (w c)[n]? with
  | none => simp
  | some h =>
    simp only [List.any_eq_true, eqLn_iff, Option.some.injEq]
    constructor
    · rintro ⟨x, hx, rfl⟩; exact ⟨h, rfl, hx⟩
    · rintro ⟨_, rfl, hx⟩; exact ⟨l, hx, rfl⟩
def newH (w : His) (c : Nat) (l : Ln) : His := upd w c (w c ++ [[l]])
def setH (w : His) (c n : Nat) (h : List Ln) (l : Ln) : His := upd w c ((w c).set n (h ++ [l]))
def good (w : His) (c n : Nat) (h : List Ln) : Prop :=
  (∃ a, h = [a] ∧ (a.st = 1 ∨ a.st = 2)) ∨
  ∃ a p, h = [a, ⟨3, a.cl, p, a.pc⟩] ∧ (a.st = 1 ∨ a.st = 2 ∧ a.pe = p) ∧ ∃ m, stood w (1 - c) p m ∧ 2 ≤ m.st ∧ m.pe = n ∧ m.cl = a.pc ∧ m.pc = a.cl
def KL (w : His) : Prop := ∀ c n h, c < 2 → (w c)[n]? = some h → good w c n h
theorem good_le {w w' : His} (hs : ∀ c n l, stood w c n l → stood w' c n l) {c n : Nat} {h : List Ln} (g : good w c n h) : good w' c n h := by
  rcases g with ⟨a, h1, h2⟩ | ⟨a, p, h1, h2, m, h3, h4⟩
  · exact .inl ⟨a, h1, h2⟩
  · exact .inr ⟨a, p, h1, h2, m, hs _ _ _ h3, h4⟩
theorem stood_new (w : His) (c0 : Nat) (x : Ln) (c n : Nat) (l : Ln) (h : stood w c n l) : stood (newH w c0 x) c n l := by
  obtain ⟨k, h1, h2⟩ := h
  unfold newH
  by_cases e : c = c0
  · subst e
    refine ⟨k, ?_, h2⟩
    rw [upd_at, List.getElem?_append_left (List.getElem?_eq_some_iff.1 h1).1]
    exact h1
  · exact ⟨k, by rw [upd_ne _ _ e]; exact h1, h2⟩
theorem stood_set {w : His} {c0 n0 : Nat} {h0 : List Ln} (hh : (w c0)[n0]? = some h0) (x : Ln) (c n : Nat) (l : Ln) (h : stood w c n l) : stood (setH w c0 n0 h0 x) c n l := by
  obtain ⟨k, h1, h2⟩ := h
  unfold setH
  by_cases e : c = c0
  · subst e
    by_cases e2 : n = n0
    · subst e2
      rw [hh] at h1
      injection h1 with h1
      subst h1
      refine ⟨h0 ++ [x], ?_, List.mem_append_left _ h2⟩
      rw [upd_at, List.getElem?_set_self (List.getElem?_eq_some_iff.1 hh).1]
    · exact ⟨k, by rw [upd_at, List.getElem?_set_ne (Ne.symm e2)]; exact h1, h2⟩
  · exact ⟨k, by rw [upd_ne _ _ e]; exact h1, h2⟩
theorem kl_nil : KL (fun _ => []) := fun c n h _ e => by cases e
theorem kl_new {w : His} (h : KL w) {c0 : Nat} {x : Ln} (hx : x.st = 1 ∨ x.st = 2) : KL (newH w c0 x) := by
  intro c n k hc hk
  have key : (w c)[n]? = some k ∨ k = [x] := by
    unfold newH at hk
    by_cases e : c = c0
    · subst e
      rw [upd_at, List.getElem?_append] at hk
      split at hk
      · exact .inl hk
      · right
        have := List.mem_of_getElem? hk
        simpa using this
    · rw [upd_ne _ _ e] at hk; exact .inl hk
  rcases key with key | rfl
  · exact good_le (stood_new w c0 x) (h c n k hc key)
  · exact .inl ⟨x, rfl, hx⟩
/-- an end that has not been opened yet is all that ever stood there -/
theorem good_one {w : His} {c n : Nat} {h : List Ln} (g : good w c n h) (hl : (lastL h).st ≠ 3) : h = [lastL h] ∧ ((lastL h).st = 1 ∨ (lastL h).st = 2) := by
  rcases g with ⟨a, rfl, h2⟩ | ⟨a, p, rfl, h2, m, h3, h4⟩
  · exact ⟨rfl, h2⟩
  · exact absurd rfl hl
theorem kl_turn {w : His} (h : KL w) {c0 n0 : Nat} (hc0 : c0 < 2) {l : Ln} (hh : (w c0)[n0]? = some [l]) {p : Nat} (hl : l.st = 1 ∨ l.st = 2 ∧ l.pe = p) {s : Nat} (hs : 2 ≤ s) (hm : stood w (1 - c0) p ⟨s, l.pc, n0, l.cl⟩) :
    KL (setH w c0 n0 [l] ⟨3, l.cl, p, l.pc⟩) := by
  intro c n k hc hk
  have key : (w c)[n]? = some k ∨ c = c0 ∧ n = n0 ∧ k = [l] ++ [⟨3, l.cl, p, l.pc⟩] := by
    unfold setH at hk
    by_cases e : c = c0
    · subst e
      rw [upd_at] at hk
      by_cases e2 : n = n0
      · subst e2
        rw [List.getElem?_set_self (List.getElem?_eq_some_iff.1 hh).1] at hk
        injection hk with hk
        exact .inr ⟨rfl, rfl, hk.symm⟩
      · rw [List.getElem?_set_ne (Ne.symm e2)] at hk; exact .inl hk
    · rw [upd_ne _ _ e] at hk; exact .inl hk
  rcases key with key | ⟨rfl, rfl, rfl⟩
  · exact good_le (stood_set hh _) (h c n k hc key)
  · exact .inr ⟨l, p, rfl, hl, _, stood_set hh _ _ _ _ hm, hs, rfl, rfl, rfl⟩
/-- what the law looks for -/
theorem kl_len {w : His} {c n : Nat} {h : List Ln} (g : good w c n h) : (h.length = 1 ∨ h.length = 2 ∧ ∃ a b, h = [a, b] ∧ a.st ≠ 3 ∧ b.st = 3) := by
  rcases g with ⟨a, rfl, h2⟩ | ⟨a, p, rfl, h2, m, h3, h4⟩
  · exact .inl rfl
  · refine .inr ⟨rfl, a, _, rfl, ?_, rfl⟩
    rcases h2 with h2 | h2 <;> omega
theorem kl_peer {w : His} (h : KL w) {c n : Nat} (hc : c < 2) {k : List Ln} (hk : (w c)[n]? = some k) (h3 : (lastL k).st = 3) :
    ∃ q, (w (1 - c))[(lastL k).pe]? = some q ∧ 2 ≤ (lastL q).st ∧ (lastL q).pe = n ∧ (lastL q).cl = (lastL k).pc ∧ (lastL q).pc = (lastL k).cl := by
  rcases h c n k hc hk with ⟨a, rfl, h2⟩ | ⟨a, p, rfl, h2, m, ⟨q, h4, h5⟩, h6, h7, h8, h9⟩
  · have : a.st = 3 := h3
    rcases h2 with h2 | h2 <;> omega
  · refine ⟨q, h4, ?_⟩
    rcases h (1 - c) p q (by omega) h4 with ⟨b, rfl, g2⟩ | ⟨b, r, rfl, g2, -⟩
    · rw [List.mem_singleton] at h5
      subst h5
      exact ⟨h6, h7, h8, h9⟩
    · simp only [List.mem_cons, List.not_mem_nil, or_false] at h5
      rcases h5 with rfl | rfl
      · refine ⟨by show 2 ≤ 3; omega, ?_, h8, h9⟩
        rcases g2 with g2 | g2
        · omega
        · show r = n; omega
      · exact ⟨by show 2 ≤ 3; omega, h7, h8, h9⟩
end Go.Proofs.Ytclldibadmnppaa
