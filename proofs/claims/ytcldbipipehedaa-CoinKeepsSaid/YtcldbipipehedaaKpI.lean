/-
  PLAIN: the banks at the beginning: two kinds of money each. No walk here.
-/
import Derived.Test.YtcldbipipehedaaKpW
namespace Go.Proofs.Ytcldbipipehedaa
/-- bank o behind its first j mints -/
def mS (much o : Nat) : Nat → BkS
  | 0 => emptyB
  | 1 => mintS emptyB xAnn (owL o 0) much
  | _ => mintS (mintS emptyB xAnn (owL o 0) much) xBob (owL o 1) much
theorem owL_ne (o : Nat) : owL o 0 ≠ owL o 1 := by
  unfold owL; split <;> split <;> simp_all
theorem mS_e1 {much : Nat} (h0 : 0 < much) (h1 : much < 18446744073709551616) (o : Nat) : mintE emptyB xAnn (owL o 0) much = 0 := by
  have h4 := owL_four o 0
  unfold mintE
  rw [chk_one h0 (by omega) (by decide), if_pos rfl, if_neg]
  show ¬ overA 0 much = true
  unfold overA; simp; omega
theorem mS_e2 {much : Nat} (h0 : 0 < much) (h1 : much < 18446744073709551616) (o : Nat) : mintE (mS much o 1) xBob (owL o 1) much = 0 := by
  have h4 := owL_four o 1
  have hs : (mS much o 1).sup (owL o 1) = 0 := (mint_far (s := emptyB) (a := xAnn) (v := much) (owL_ne o).symm).1
  unfold mintE
  rw [chk_one h0 (by omega) (by decide), if_pos rfl, hs, if_neg]
  unfold overA; simp; omega
theorem mS_far {much o : Nat} {u : List UInt8} (h0 : u ≠ owL o 0) (h1 : u ≠ owL o 1) : (mS much o 2).sup u = 0 ∧ ∀ b, (mS much o 2).bal u b = 0 := by
  have q2 := mint_far (s := mintS emptyB xAnn (owL o 0) much) (a := xBob) (v := much) h1
  have q1 := mint_far (s := emptyB) (a := xAnn) (v := much) h0
  exact ⟨q2.1.trans q1.1, fun b => (q2.2 b).trans (q1.2 b)⟩
theorem mS_own0 {much : Nat} (h0 : 0 < much) (h1 : much < 18446744073709551616) (o : Nat) : (mS much o 2).sup (owL o 0) = much ∧ (mS much o 2).bal (owL o 0) xAnn = much ∧ ∀ b, b ≠ xAnn → (mS much o 2).bal (owL o 0) b = 0 := by
  have q2 := mint_far (s := mintS emptyB xAnn (owL o 0) much) (a := xBob) (v := much) (owL_ne o)
  obtain ⟨a1, a2, a3⟩ := mint_at (mS_e1 h0 h1 o) (by show (0 : Nat) + much < _; omega)
  refine ⟨q2.1.trans (a1.trans (Nat.zero_add _)), (q2.2 xAnn).trans (a2.trans (Nat.zero_add _)), fun b hb => (q2.2 b).trans (a3 b hb)⟩
theorem mS_own1 {much : Nat} (h0 : 0 < much) (h1 : much < 18446744073709551616) (o : Nat) : (mS much o 2).sup (owL o 1) = much ∧ (mS much o 2).bal (owL o 1) xBob = much ∧ ∀ b, b ≠ xBob → (mS much o 2).bal (owL o 1) b = 0 := by
  have q1 := mint_far (s := emptyB) (a := xAnn) (v := much) (owL_ne o).symm
  have hb0 : (mS much o 1).bal (owL o 1) xBob = 0 := q1.2 xBob
  have hs0 : (mS much o 1).sup (owL o 1) = 0 := q1.1
  obtain ⟨a1, a2, a3⟩ := mint_at (mS_e2 h0 h1 o) (by rw [hb0]; omega)
  rw [hs0] at a1
  rw [hb0] at a2
  exact ⟨a1.trans (Nat.zero_add _), a2.trans (Nat.zero_add _), fun b hb => (a3 b hb).trans (q1.2 b)⟩
/-- the banks at the beginning -/
def sI (much : Nat) : Nat → BkS := fun o => mS much o 2
theorem ki_start {much : Nat} (h0 : 0 < much) (h1 : much < 18446744073709551616) : KI (sI much) [] much := by
  obtain ⟨p1, p2, p3⟩ := ppl_ne
  refine ⟨fun side k hs hk => ?_, fun x hx => by cases hx⟩
  obtain ⟨e1, e2, e3⟩ := esc_ne (1 + side)
  obtain ⟨f1, f2⟩ := mS_far (much := much) (o := 1 - side) (u := vchr side k) (fun e => ow_vchr _ _ _ _ e.symm) (fun e => ow_vchr _ _ _ _ e.symm)
  unfold kept t3
  show _ ∧ _ ∧ (mS much (1 - side) 2).bal _ _ + (mS much (1 - side) 2).bal _ _ + (mS much (1 - side) 2).bal _ _ = (mS much (1 - side) 2).sup _ ∧ (mS much side 2).bal _ _ = (mS much (1 - side) 2).sup _ + und [] side _ _
  rw [f1, f2, f2, f2, und_nil]
  rcases (by omega : k = 0 ∨ k = 1) with rfl | rfl
  · obtain ⟨a1, a2, a3⟩ := mS_own0 h0 h1 side
    refine ⟨?_, a1, rfl, a3 _ e1⟩
    show (mS much side 2).bal _ _ + (mS much side 2).bal _ _ + (mS much side 2).bal _ _ + (mS much side 2).bal _ _ = much
    rw [a2, a3 _ p1.symm, a3 _ p2.symm, a3 _ e1]; omega
  · obtain ⟨a1, a2, a3⟩ := mS_own1 h0 h1 side
    refine ⟨?_, a1, rfl, a3 _ e2⟩
    show (mS much side 2).bal _ _ + (mS much side 2).bal _ _ + (mS much side 2).bal _ _ + (mS much side 2).bal _ _ = much
    rw [a2, a3 _ p1, a3 _ p3.symm, a3 _ e2]; omega
theorem set2_twice (s : Nat → BkS) (i : Nat) (a b : BkS) : set2 (set2 s i a) i b = set2 s i b := by
  funext j; unfold set2; split <;> rfl
end Go.Proofs.Ytcldbipipehedaa
