/-
  voussoirlaw19.CoinWhole: for every input the law returns true, and each argument reads behind the call as it read before. No condition (the form's own reach is used).
-/
import Derived.Test.YtcldbipipehedaaCOpen
import Derived.Test.YtcldbipipehedaaCWhole
namespace Go.Proofs.Ytcldbipipehedaa.coinWhole
open Go.ChangeShapes Go.WideShapes Go.ChangeAt Go.RowKit
open Go.ChangeMaps (open_string shut_string)
set_option linter.unusedVariables false

set_option maxRecDepth 100000 in
theorem contract (H : Type) (enc : TypeId × Value → H) (W : World) (base : Nat) (args : Array Value) (ds gs : List (DataW H)) (before : List MemPlace)
    (hval : ∀ (j : Nat) t v, Try.f9.params[j]? = some t → args[j]? = some v → Value.okWide Try.prog W .any base t v)
    (hW : DataW.Whole enc Try.prog Try.f9.params.toList Rows.coinWholeSpec.vars false W args.toList ds gs before)
    (hsz0 : (DataW.weightsEach Try.prog (Try.f9.params.toList ++ Rows.coinWholeSpec.plain.varTypes Try.prog) (ds ++ gs)).all (· ≤ reachBytes) = true) :
    Calls Try.prog 9 args W fun e W' => ∃ v, e = .returned v ∧ Rows.coinWholeSpec.post enc Try.prog Try.f9 false true false false W args v W' := by
  have hW' := hW
  obtain ⟨p, q, hA0, hV, rfl, hfz, hnd⟩ := hW
  have hA : DataW.TrodAll enc Try.prog W 0 (fun _ => true) true Try.f9.params.toList args.toList ds p := hA0
  have hsz := hsz0
  rw [Try.params9] at hA hval hsz
  obtain ⟨v0, vs0, d0, ds0, p0, q0, hargs, rfl, rfl, h0, r0⟩ := trodAll_cons hA
  obtain ⟨v1, vs1, d1, ds1, p1, q1, rfl, rfl, rfl, h1, r1⟩ := trodAll_cons r0
  obtain ⟨v2, vs2, d2, ds2, p2, q2, rfl, rfl, rfl, h2, r2⟩ := trodAll_cons r1
  obtain ⟨rfl, rfl, rfl⟩ := trodAll_nil r2
  obtain rfl : args = #[v0, v1, v2] := by cases args; simp_all
  obtain ⟨rfl, rfl⟩ := trodVars_none hV
  have k0 := h0
  have lt0 : ∀ x ∈ p0, x.block < W.heap.size := by obtain ⟨m, hm⟩ := k0; exact DataW.trod_lt m _ _ _ hm
  obtain ⟨x0, rfl, hd0, w0⟩ := open_coin (hval 0 41 v0 rfl rfl) h0
  have k1 := h1
  have lt1 : ∀ x ∈ p1, x.block < W.heap.size := by obtain ⟨m, hm⟩ := k1; exact DataW.trod_lt m _ _ _ hm
  obtain ⟨a1, rfl, rfl, rfl, w01⟩ := open_int Try.underlying3 (hval 1 3 v1 rfl rfl) h1
  have w1 := wf_i64 w01
  have k2 := h2
  have lt2 : ∀ x ∈ p2, x.block < W.heap.size := by obtain ⟨m, hm⟩ := k2; exact DataW.trod_lt m _ _ _ hm
  obtain ⟨s2, rfl, rfl, rfl, w02⟩ := open_string Try.underlying9 (hval 2 9 v2 rfl rfl) h2
  obtain ⟨l2, rfl⟩ : ∃ l : List UInt8, s2 = ⟨l.toArray⟩ := ⟨_, str_mk s2⟩
  have w2 : l2.length ≤ 9223372036854775807 := by simpa [ByteArray.size, maxLen] using w02
  clear hA0
  have key : Calls Try.prog 9 #[.agg #[.string ⟨x0.den.toArray⟩, .int .u64 (x0.amt : Nat), .string ⟨x0.fr.toArray⟩, .string ⟨x0.to.toArray⟩], .int .i64 a1, .string ⟨l2.toArray⟩] W fun e W' => e = .returned (.bool true) ∧ New W W' := by
    subst hd0
    have h9 := reachBytes_lt
    have e1 := List.all_eq_true.1 hsz _ (DataW.weights_mem_each (j := 0) (t := 41) rfl rfl x0.den.length (by simp [DataW.weights, DataW.weightsEach, Try.underlying41]))
    have e2 := List.all_eq_true.1 hsz _ (DataW.weights_mem_each (j := 0) (t := 41) rfl rfl x0.fr.length (by simp [DataW.weights, DataW.weightsEach, Try.underlying41]))
    have e3 := List.all_eq_true.1 hsz _ (DataW.weights_mem_each (j := 0) (t := 41) rfl rfl x0.to.length (by simp [DataW.weights, DataW.weightsEach, Try.underlying41]))
    have e4 : l2.length ≤ reachBytes := by
      have h := sized_string hsz (j := 2) (t := 9) (bytes := (⟨l2.toArray⟩ : ByteArray).data.toList) rfl rfl
      simpa using h
    simp only [decide_eq_true_eq] at e1 e2 e3
    exact whole_walk x0 a1 l2 w0.2.1 w1 (by omega) (by omega) (by omega) (by omega) W
  refine key.mono fun e W' ⟨he, hn⟩ => ?_
  have bel := hn.below
  subst he
  exact ⟨_, rfl, _, _, _, [], _, [], hW', trodAll_mk1 (shut_bool Try.underlying4 _), (trodAll_cons_mk (Below.trod laidOut (by kernel_rfl) (of_decide_eq_true (by kernel_rfl)) k0 bel lt0) (trodAll_cons_mk (Below.trod laidOut (by kernel_rfl) (of_decide_eq_true (by kernel_rfl)) k1 bel lt1) (trodAll_cons_mk (Below.trod laidOut (by kernel_rfl) (of_decide_eq_true (by kernel_rfl)) k2 bel lt2) trodAll_mk0))), rfl, bel.frame _, fun h => by cases h⟩

set_option maxRecDepth 100000 in
theorem lifted (os : Os) (started : os.Started) (H : Type) (enc : TypeId × Value → H) :
    ReturnsInHanded {} Try.checked os 9 .any (Rows.coinWholeSpec.pre6 enc Try.prog Try.f9 Rows.coinWholeRow.domain false) (Rows.coinWholeSpec.post enc Try.prog Try.f9 false true false false) := by
  refine returnsInHanded_of_change_sized (C := Try.checked) own started (by kernel_rfl) Try.func9
    (ChangeSpec.witness6 (enc := enc) (C := Try.checked) false ⟨#[], #[.agg #[.string ByteArray.empty, .int .u64 0, .string ByteArray.empty, .string ByteArray.empty], .int .i64 0, .string ByteArray.empty], []⟩ 8 (by kernel_rfl) (by kernel_rfl) (by kernel_rfl) (by kernel_rfl)) ?_
  intro W base args ds gs before hval hW _ hsz _
  exact contract H enc W base args ds gs before hval hW hsz

theorem over : Rows.coinWholeRow.holds Try.pinned (OpenSpec.ofChange Rows.coinWholeSpec) :=
  OpenClaim.holds_of_wide 9 Try.f9 rfl rfl rfl rfl rfl rfl rfl ⟨rfl, rfl, rfl, rfl, rfl⟩ rfl rfl rfl rfl rfl (by kernel_rfl) Try.func9 (by kernel_rfl)
    (of_decide_eq_true (by kernel_rfl)) (by unfold Func.isWrapper; first | (rw [if_pos (by decide +kernel)]; kernel_rfl) | (rw [if_neg (by decide +kernel)]; exact ⟨rfl, rfl⟩))
    (fun os started H enc _ => lifted os started H enc)

theorem proved : Rows.CoinWholeSaid := over
end Go.Proofs.Ytcldbipipehedaa.coinWhole
