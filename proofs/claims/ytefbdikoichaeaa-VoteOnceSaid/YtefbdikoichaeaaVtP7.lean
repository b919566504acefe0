/-
  VOTE: voussoirlaw13.Play.does, begins.
-/
import Derived.Test.YtefbdikoichaeaaVtP6
namespace Go.Proofs.Ytefbdikoichaeaa
open Go.RowKit
attribute [local go_sem ↓] Go.wp_at_zero Go.wp_at_succ

theorem does_any (w0 w : World) (p n f m : Nat) (s : Ps) (x : Ac) (i1 : I64 x.what) (i2 : I64 x.on) (i3 : I64 x.view) (i4 : I64 x.who) (hn0 : 0 < n) (hn1 : n ≤ 100) (hI : Inv n f s) (hm : m ≤ 1000000) (hv : ∀ j, vw s.l j ≤ m) (hl : s.l.length ≤ 200) (h : Pl w0 w p n f s) :
    Calls Try.prog 34 #[.pointer (some ⟨p, 0, none⟩), .agg #[.int .i64 x.what, .int .i64 x.on, .int .i64 x.view, .int .i64 x.who]] w fun e w' => e = .returned (.tuple #[]) ∧ DoesPost w0 p n f m s w' := by
  by_cases h0 : pk x.what 6 = 0
  · exact does_add w0 w p n f m s x i1 i2 i3 h0 hn1 hI hm hv hl h
  · exact does_vote w0 w p n f m s x i1 i2 i4 h0 hn0 hn1 hI hv hl h
/-- what begins leaves -/
def BegPost (w0 : World) (e : Ending) (w' : World) : Prop := ∃ p n f, e = .returned (.pointer (some ⟨p, 0, none⟩)) ∧ Pl w0 w' p n f (beg n) ∧ Enough n f ∧ 0 < n ∧ n ≤ 100
theorem begins_all (w0 w : World) (many : Bool) (n0 : New w0 w) : Calls Try.prog 33 #[.bool many] w (BegPost w0) := by
  cases many
  · exact (begins4 w0 w n0).mono fun e w' ⟨p, he, hp⟩ => ⟨p, 4, 1, he, hp, enough4, by omega, by omega⟩
  · exact (begins7 w0 w n0).mono fun e w' ⟨p, he, hp⟩ => ⟨p, 7, 2, he, hp, enough7, by omega, by omega⟩
theorem own_form {w : World} {base : Nat} {e : TypeId} {size : Nat} {v : Value} {n : Nat} {xs : List Value} (h : w.ownsRow base e size v n xs) : ∃ ao cl, v = .slice ao n cl ∧ (0 < n → ∃ gl, ao = some ⟨gl, 0, none⟩) := by
  rcases h.2 with ⟨rfl, rfl⟩ | ⟨g, cap, cur, rfl, _⟩
  · exact ⟨none, 0, rfl, fun h => by omega⟩
  · exact ⟨_, cap, rfl, fun _ => ⟨g, rfl⟩⟩
theorem int_at {w : World} {base g cl : Nat} {cs : List Nat} (h : w.ownsRow base 3 1 (.slice (some ⟨g, 0, none⟩) cs.length cl) cs.length (cs.map fun c => .int .i64 (c : Nat))) (i : Nat) (hi : i < cs.length) : w.cell? ⟨g, i, none⟩ = some (.int .i64 (cs[i] : Nat)) := by
  have := h.cells (g := g) rfl i (.int .i64 (cs[i] : Nat)) (by simp [hi])
  rw [addr_add0] at this
  exact this
end Go.Proofs.Ytefbdikoichaeaa
