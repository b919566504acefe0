/-
  OPENING ARGUMENTS: acts, coins, alone and in slices. No walk here.
-/
import Derived.Test.YtcldbipipehedaaRows
import Derived.Test.YtcldbipipehedaaTr1
import Derived.ProofKit
import Derived.OpenShut
import Derived.ShutString
import Derived.ChangeOld
import Derived.SizedLaws
import Derived.JoinedCond
import Derived.Deep.CondSized
import Derived.Deep.Slices
import Derived.Deep.Strs
import Derived.Lib.SmallJoins
namespace Go.Proofs.Ytcldbipipehedaa
open Go.ChangeShapes Go.WideShapes Go.ChangeAt Go.RowKit Go.Deep
/-- c is an int -/
def I64 (c : Int) : Prop := -9223372036854775808 ≤ c ∧ c ≤ 9223372036854775807
structure A10 where
  what : Int
  fr : Int
  to : Int
  den : Int
  n : Nat
structure A19 where
  what : Int
  side : Int
  fr : Int
  to : Int
  den : Int
  which : Int
  n : Nat
theorem own : ownKnob Try.prog.godebug = none := by kernel_rfl
theorem laidOut : laidOutB Try.prog = true := by kernel_rfl

theorem addr_add_none (b o n : Nat) : (⟨b, o, none⟩ : Addr).add n = ⟨b, o + n, none⟩ := by
  unfold Addr.add
  split
  · rename_i h; subst h; rfl
  · rfl

/-- the rows of a slice lie in memory from an address on: k cells each -/
def Rws {α : Type} (w : World) (a : Option Addr) (k : Nat) (S : α → List Value) (l : List α) : Prop :=
  ∀ i x, l[i]? = some x → ∃ b o, a = some ⟨b, o, none⟩ ∧ b < w.heap.size ∧ ∀ j u, (S x)[j]? = some u → w.cell? ⟨b, o + i * k + j, none⟩ = some u

theorem open_rows {α : Type} [Inhabited α] {P : Program} {H : Type} {enc : TypeId × Value → H} {w : World} {base b0 : Nat} {spare : Nat → Bool} {held : Bool} {r : Reach} {t e : TypeId} {v : Value} {d : DataW H} {ps : List MemPlace}
    (ht : P.underlying t = some (.slice e)) (k : Nat) (hc : P.cellsOf e = k) (hk : 0 < k) (S : α → List Value) (hS : ∀ x, (S x).length = k) (dat : α → DataW H) (ok : α → Prop)
    (helem : ∀ fuel cs x, DataW.trod enc P w base spare held fuel e cs = some x → ∃ a, cs = S a ∧ x.1 = dat a ∧ ok a)
    (hv : Value.okWide P w r b0 t v) (h : DataW.Trod enc P w base spare held t v d ps) :
    ∃ a len cap l, v = .slice a len cap ∧ l.length = len ∧ len ≤ 9223372036854775807 ∧ len ≤ cap ∧ (d = .nil ∧ l = [] ∨ ∃ sp, d = .slice (l.map dat) sp) ∧ (∀ x ∈ l, ok x) ∧ Rws w a k S l := by
  obtain ⟨a, len, cap, rfl⟩ := okWide_slice ht hv
  obtain ⟨fuel, hf⟩ := h
  rcases open_slice ht hf with ⟨hcs, hx⟩ | ⟨a', len', cap', m, n, D, Pl, hcs, _, hl, hm, hmm, hx, hel⟩
  · simp [Value.cells] at hcs
    obtain ⟨rfl, rfl, rfl⟩ := hcs
    simp only [Prod.mk.injEq] at hx
    exact ⟨none, 0, 0, [], rfl, rfl, by omega, by omega, .inl ⟨hx.1, rfl⟩, (fun _ h => by cases h), fun i x h => by simp at h⟩
  · simp [Value.cells] at hcs
    obtain ⟨rfl, rfl, rfl⟩ := hcs
    simp only [Prod.mk.injEq] at hx
    have hlm : len ≤ m := by rw [hmm]; split <;> omega
    obtain ⟨F, hF⟩ := choose_lt (α := α) (p := fun i x => (∀ j u, (S x)[j]? = some u → w.cell? ((a'.add (i * k)).add j) = some u) ∧ D i = dat x ∧ ok x) (n := len) (fun i hi => by
      obtain ⟨cs', h1, h2⟩ := hel i (by omega)
      obtain ⟨x, rfl, hd, hok⟩ := helem _ _ _ h2
      obtain ⟨_, _, hcell⟩ := World.cells?_some h1
      refine ⟨x, fun j u hu => ?_, hd, hok⟩
      have hj : j < k := by have := (List.getElem?_eq_some_iff.1 hu).1; rw [hS] at this; exact this
      rw [hc] at hcell
      exact (hcell j hj).trans hu)
    refine ⟨some a', len, cap, (List.range len).map F, rfl, by simp, by unfold maxLen at hm; omega, hl, .inr ⟨(List.range (m - len)).map fun j => D (len + j), ?_⟩, ?_, ?_⟩
    · rw [hx.1]
      congr 1
      rw [List.map_map]
      apply List.map_congr_left
      intro i hi
      exact (hF i (by simpa using hi)).2.1
    · intro x hx
      obtain ⟨i, hi, rfl⟩ := List.mem_map.1 hx
      exact (hF i (by simpa using hi)).2.2
    · intro i x hx
      have hi : i < len := by have := (List.getElem?_eq_some_iff.1 hx).1; simpa using this
      have hxe : F i = x := by simpa [hi] using hx
      subst hxe
      obtain ⟨u, hu⟩ : ∃ u, (S (F 0))[0]? = some u := ⟨_, List.getElem?_eq_getElem (by rw [hS]; exact hk)⟩
      have h00 := (hF 0 (by omega)).1 0 u hu
      obtain ⟨b, off, spot⟩ := a'
      have hspot : spot = none := by simpa [Addr.add] using World.cell?_spot h00
      subst hspot
      have hlt := World.block_lt_of_cell? w _ h00
      rw [addr_add_none, addr_add_none] at hlt
      refine ⟨b, off, rfl, hlt, fun j u hu => ?_⟩
      have := (hF i hi).1 j u hu
      rw [addr_add_none, addr_add_none] at this
      exact this

theorem wf_i64 {n : Int} (h : (Lit.int .i64 n).wf = true) : I64 n := by
  simpa [Lit.wf, IntKind.min, IntKind.max, IntKind.signed, IntKind.bits, I64] using h
theorem wf_u64 {n : Int} (h : (Lit.int .u64 n).wf = true) : ∃ m : Nat, n = (m : Int) ∧ U64 m := by
  have h2 : 0 ≤ n ∧ n ≤ 18446744073709551615 := by simpa [Lit.wf, IntKind.min, IntKind.max, IntKind.signed, IntKind.bits] using h
  exact ⟨n.toNat, by omega, by show _ < _; omega⟩


set_option maxRecDepth 100000 in
theorem elem_act10 {H : Type} {enc : TypeId × Value → H} {w : World} {base : Nat} {spare : Nat → Bool} {held : Bool} : ∀ (fuel : Nat) (cs : List Value) (z : DataW H × List MemPlace),
    DataW.trod enc Try.prog w base spare held fuel 69 cs = some z → ∃ x : A10, cs = [.int .i64 x.what, .int .i64 x.fr, .int .i64 x.to, .int .i64 x.den, .int .u64 (x.n : Nat)] ∧ z.1 = .agg [.lit (.int .i64 x.what), .lit (.int .i64 x.fr), .lit (.int .i64 x.to), .lit (.int .i64 x.den), .lit (.int .u64 (x.n : Nat))] ∧ (I64 x.what ∧ I64 x.fr ∧ I64 x.to ∧ I64 x.den ∧ U64 x.n) := by
  intro fuel cs z hz
  have hel : ∀ (n : Nat) (c : Value) (y : DataW H × List MemPlace), DataW.trod enc Try.prog w base spare held n 3 [c] = some y → ∃ m : Int, c = .int .i64 m ∧ y = (.lit (.int .i64 m), []) ∧ I64 m := by
    intro n c y e
    obtain ⟨m, c1, hy, wm⟩ := DataW.trod_int Try.underlying3 e
    simp at c1
    exact ⟨m, c1, hy, wf_i64 wm⟩
  have heu : ∀ (n : Nat) (c : Value) (y : DataW H × List MemPlace), DataW.trod enc Try.prog w base spare held n 22 [c] = some y → ∃ m : Nat, c = .int .u64 (m : Nat) ∧ y = (.lit (.int .u64 (m : Nat)), []) ∧ U64 m := by
    intro n c y e
    obtain ⟨m, c1, hy, wm⟩ := DataW.trod_int Try.underlying22 e
    simp at c1
    obtain ⟨k, rfl, hk⟩ := wf_u64 wm
    exact ⟨k, c1, hy, hk⟩
  have hes : ∀ (n : Nat) (c : Value) (y : DataW H × List MemPlace), DataW.trod enc Try.prog w base spare held n 9 [c] = some y → ∃ s : List UInt8, c = .string ⟨s.toArray⟩ ∧ y = (.lit (.string s), []) ∧ s.length ≤ 9223372036854775807 := by
    intro n c y e
    obtain ⟨s, c1, hy, ws⟩ := DataW.trod_string Try.underlying9 e
    simp at c1
    exact ⟨s.data.toList, c1.trans (congrArg _ (str_mk s)), hy, by rw [Array.length_toList]; exact ws⟩
  obtain ⟨ys, n, _, hx', hcs, hlen, hg⟩ := DataW.trod_struct Try.underlying69 hz
  have hl : cs.length = 5 := hcs.trans (by kernel_rfl)
  match cs, hl, ys, hlen with
  | [q0, q1, q2, q3, q4], _, [y0, y1, y2, y3, y4], _ =>
    have g0 := hg 0 ⟨"What", 3, 0, false, "", "", 0⟩ rfl
    have g1 := hg 1 ⟨"From", 3, 1, false, "", "", 8⟩ rfl
    have g2 := hg 2 ⟨"To", 3, 2, false, "", "", 16⟩ rfl
    have g3 := hg 3 ⟨"Denom", 3, 3, false, "", "", 24⟩ rfl
    have g4 := hg 4 ⟨"N", 22, 4, false, "", "", 32⟩ rfl
    rw [show Try.prog.cellsOf 3 = 1 by kernel_rfl] at g0 g1 g2 g3
    rw [show Try.prog.cellsOf 22 = 1 by kernel_rfl] at g4
    obtain ⟨m0, rfl, e0, w0⟩ := hel n q0 y0 (by simpa using g0)
    obtain ⟨m1, rfl, e1, w1⟩ := hel n q1 y1 (by simpa using g1)
    obtain ⟨m2, rfl, e2, w2⟩ := hel n q2 y2 (by simpa using g2)
    obtain ⟨m3, rfl, e3, w3⟩ := hel n q3 y3 (by simpa using g3)
    obtain ⟨m4, rfl, e4, w4⟩ := heu n q4 y4 (by simpa using g4)
    refine ⟨⟨m0, m1, m2, m3, m4⟩, rfl, ?_, w0, w1, w2, w3, w4⟩
    rw [hx', e0, e1, e2, e3, e4]
    rfl
set_option maxRecDepth 100000 in
theorem open_act10 {H : Type} {enc : TypeId × Value → H} {w : World} {base b0 : Nat} {spare : Nat → Bool} {held : Bool} {r : Reach} {v : Value} {d : DataW H} {ps : List MemPlace}
    (hv : Value.okWide Try.prog w r b0 69 v) (h : DataW.Trod enc Try.prog w base spare held 69 v d ps) :
    ∃ x : A10, v = .agg #[.int .i64 x.what, .int .i64 x.fr, .int .i64 x.to, .int .i64 x.den, .int .u64 (x.n : Nat)] ∧ d = .agg [.lit (.int .i64 x.what), .lit (.int .i64 x.fr), .lit (.int .i64 x.to), .lit (.int .i64 x.den), .lit (.int .u64 (x.n : Nat))] ∧ (I64 x.what ∧ I64 x.fr ∧ I64 x.to ∧ I64 x.den ∧ U64 x.n) := by
  obtain ⟨cs, rfl, hsz⟩ := okWide_struct Try.underlying69 hv
  obtain ⟨fuel, hf⟩ := h
  obtain ⟨x, h1, h2, h3⟩ := elem_act10 fuel _ _ hf
  refine ⟨x, ?_, h2, h3⟩
  have h4 : cs.toList = _ := h1
  cases cs
  simp at h4
  rw [h4]
/-- they lie in memory from an address on -/
def A10At (w : World) (a : Option Addr) (l : List A10) : Prop :=
  ∀ i x, l[i]? = some x → ∃ b o, a = some ⟨b, o, none⟩ ∧ b < w.heap.size ∧ (I64 x.what ∧ I64 x.fr ∧ I64 x.to ∧ I64 x.den ∧ U64 x.n) ∧ w.cell? ⟨b, o + i * 5, none⟩ = some (.int .i64 x.what) ∧ w.cell? ⟨b, o + i * 5 + 1, none⟩ = some (.int .i64 x.fr) ∧ w.cell? ⟨b, o + i * 5 + 2, none⟩ = some (.int .i64 x.to) ∧ w.cell? ⟨b, o + i * 5 + 3, none⟩ = some (.int .i64 x.den) ∧ w.cell? ⟨b, o + i * 5 + 4, none⟩ = some (.int .u64 (x.n : Nat))
set_option maxRecDepth 100000 in
theorem open_act10s {H : Type} {enc : TypeId × Value → H} {w : World} {base b0 : Nat} {spare : Nat → Bool} {held : Bool} {r : Reach} {v : Value} {d : DataW H} {ps : List MemPlace}
    (hv : Value.okWide Try.prog w r b0 67 v) (h : DataW.Trod enc Try.prog w base spare held 67 v d ps) :
    ∃ a len cap l, v = .slice a len cap ∧ l.length = len ∧ len ≤ 9223372036854775807 ∧ len ≤ cap ∧
      (d = .nil ∧ l = [] ∨ ∃ sp, d = .slice (l.map fun x : A10 => .agg [.lit (.int .i64 x.what), .lit (.int .i64 x.fr), .lit (.int .i64 x.to), .lit (.int .i64 x.den), .lit (.int .u64 (x.n : Nat))]) sp) ∧ A10At w a l := by
  haveI : Inhabited A10 := ⟨⟨0, 0, 0, 0, 0⟩⟩
  obtain ⟨a, len, cap, l, h1, h2, h3, h4, h5, h6, h7⟩ := open_rows Try.underlying67 5 (by kernel_rfl) (by omega) (fun x : A10 => [.int .i64 x.what, .int .i64 x.fr, .int .i64 x.to, .int .i64 x.den, .int .u64 (x.n : Nat)]) (fun _ => rfl)
    (fun x : A10 => .agg [.lit (.int .i64 x.what), .lit (.int .i64 x.fr), .lit (.int .i64 x.to), .lit (.int .i64 x.den), .lit (.int .u64 (x.n : Nat))]) (fun x => I64 x.what ∧ I64 x.fr ∧ I64 x.to ∧ I64 x.den ∧ U64 x.n) elem_act10 hv h
  refine ⟨a, len, cap, l, h1, h2, h3, h4, h5, ?_⟩
  intro i x hx
  obtain ⟨b, o, ha, hb, hc⟩ := h7 i x hx
  exact ⟨b, o, ha, hb, h6 x (List.mem_of_getElem? hx), hc 0 _ rfl, hc 1 _ rfl, hc 2 _ rfl, hc 3 _ rfl, hc 4 _ rfl⟩

set_option maxRecDepth 100000 in
theorem elem_act19 {H : Type} {enc : TypeId × Value → H} {w : World} {base : Nat} {spare : Nat → Bool} {held : Bool} : ∀ (fuel : Nat) (cs : List Value) (z : DataW H × List MemPlace),
    DataW.trod enc Try.prog w base spare held fuel 39 cs = some z → ∃ x : A19, cs = [.int .i64 x.what, .int .i64 x.side, .int .i64 x.fr, .int .i64 x.to, .int .i64 x.den, .int .i64 x.which, .int .u64 (x.n : Nat)] ∧ z.1 = .agg [.lit (.int .i64 x.what), .lit (.int .i64 x.side), .lit (.int .i64 x.fr), .lit (.int .i64 x.to), .lit (.int .i64 x.den), .lit (.int .i64 x.which), .lit (.int .u64 (x.n : Nat))] ∧ (I64 x.what ∧ I64 x.side ∧ I64 x.fr ∧ I64 x.to ∧ I64 x.den ∧ I64 x.which ∧ U64 x.n) := by
  intro fuel cs z hz
  have hel : ∀ (n : Nat) (c : Value) (y : DataW H × List MemPlace), DataW.trod enc Try.prog w base spare held n 3 [c] = some y → ∃ m : Int, c = .int .i64 m ∧ y = (.lit (.int .i64 m), []) ∧ I64 m := by
    intro n c y e
    obtain ⟨m, c1, hy, wm⟩ := DataW.trod_int Try.underlying3 e
    simp at c1
    exact ⟨m, c1, hy, wf_i64 wm⟩
  have heu : ∀ (n : Nat) (c : Value) (y : DataW H × List MemPlace), DataW.trod enc Try.prog w base spare held n 22 [c] = some y → ∃ m : Nat, c = .int .u64 (m : Nat) ∧ y = (.lit (.int .u64 (m : Nat)), []) ∧ U64 m := by
    intro n c y e
    obtain ⟨m, c1, hy, wm⟩ := DataW.trod_int Try.underlying22 e
    simp at c1
    obtain ⟨k, rfl, hk⟩ := wf_u64 wm
    exact ⟨k, c1, hy, hk⟩
  have hes : ∀ (n : Nat) (c : Value) (y : DataW H × List MemPlace), DataW.trod enc Try.prog w base spare held n 9 [c] = some y → ∃ s : List UInt8, c = .string ⟨s.toArray⟩ ∧ y = (.lit (.string s), []) ∧ s.length ≤ 9223372036854775807 := by
    intro n c y e
    obtain ⟨s, c1, hy, ws⟩ := DataW.trod_string Try.underlying9 e
    simp at c1
    exact ⟨s.data.toList, c1.trans (congrArg _ (str_mk s)), hy, by rw [Array.length_toList]; exact ws⟩
  obtain ⟨ys, n, _, hx', hcs, hlen, hg⟩ := DataW.trod_struct Try.underlying39 hz
  have hl : cs.length = 7 := hcs.trans (by kernel_rfl)
  match cs, hl, ys, hlen with
  | [q0, q1, q2, q3, q4, q5, q6], _, [y0, y1, y2, y3, y4, y5, y6], _ =>
    have g0 := hg 0 ⟨"What", 3, 0, false, "", "", 0⟩ rfl
    have g1 := hg 1 ⟨"Side", 3, 1, false, "", "", 8⟩ rfl
    have g2 := hg 2 ⟨"From", 3, 2, false, "", "", 16⟩ rfl
    have g3 := hg 3 ⟨"To", 3, 3, false, "", "", 24⟩ rfl
    have g4 := hg 4 ⟨"Denom", 3, 4, false, "", "", 32⟩ rfl
    have g5 := hg 5 ⟨"Which", 3, 5, false, "", "", 40⟩ rfl
    have g6 := hg 6 ⟨"N", 22, 6, false, "", "", 48⟩ rfl
    rw [show Try.prog.cellsOf 3 = 1 by kernel_rfl] at g0 g1 g2 g3 g4 g5
    rw [show Try.prog.cellsOf 22 = 1 by kernel_rfl] at g6
    obtain ⟨m0, rfl, e0, w0⟩ := hel n q0 y0 (by simpa using g0)
    obtain ⟨m1, rfl, e1, w1⟩ := hel n q1 y1 (by simpa using g1)
    obtain ⟨m2, rfl, e2, w2⟩ := hel n q2 y2 (by simpa using g2)
    obtain ⟨m3, rfl, e3, w3⟩ := hel n q3 y3 (by simpa using g3)
    obtain ⟨m4, rfl, e4, w4⟩ := hel n q4 y4 (by simpa using g4)
    obtain ⟨m5, rfl, e5, w5⟩ := hel n q5 y5 (by simpa using g5)
    obtain ⟨m6, rfl, e6, w6⟩ := heu n q6 y6 (by simpa using g6)
    refine ⟨⟨m0, m1, m2, m3, m4, m5, m6⟩, rfl, ?_, w0, w1, w2, w3, w4, w5, w6⟩
    rw [hx', e0, e1, e2, e3, e4, e5, e6]
    rfl
set_option maxRecDepth 100000 in
theorem open_act19 {H : Type} {enc : TypeId × Value → H} {w : World} {base b0 : Nat} {spare : Nat → Bool} {held : Bool} {r : Reach} {v : Value} {d : DataW H} {ps : List MemPlace}
    (hv : Value.okWide Try.prog w r b0 39 v) (h : DataW.Trod enc Try.prog w base spare held 39 v d ps) :
    ∃ x : A19, v = .agg #[.int .i64 x.what, .int .i64 x.side, .int .i64 x.fr, .int .i64 x.to, .int .i64 x.den, .int .i64 x.which, .int .u64 (x.n : Nat)] ∧ d = .agg [.lit (.int .i64 x.what), .lit (.int .i64 x.side), .lit (.int .i64 x.fr), .lit (.int .i64 x.to), .lit (.int .i64 x.den), .lit (.int .i64 x.which), .lit (.int .u64 (x.n : Nat))] ∧ (I64 x.what ∧ I64 x.side ∧ I64 x.fr ∧ I64 x.to ∧ I64 x.den ∧ I64 x.which ∧ U64 x.n) := by
  obtain ⟨cs, rfl, hsz⟩ := okWide_struct Try.underlying39 hv
  obtain ⟨fuel, hf⟩ := h
  obtain ⟨x, h1, h2, h3⟩ := elem_act19 fuel _ _ hf
  refine ⟨x, ?_, h2, h3⟩
  have h4 : cs.toList = _ := h1
  cases cs
  simp at h4
  rw [h4]
/-- they lie in memory from an address on -/
def A19At (w : World) (a : Option Addr) (l : List A19) : Prop :=
  ∀ i x, l[i]? = some x → ∃ b o, a = some ⟨b, o, none⟩ ∧ b < w.heap.size ∧ (I64 x.what ∧ I64 x.side ∧ I64 x.fr ∧ I64 x.to ∧ I64 x.den ∧ I64 x.which ∧ U64 x.n) ∧ w.cell? ⟨b, o + i * 7, none⟩ = some (.int .i64 x.what) ∧ w.cell? ⟨b, o + i * 7 + 1, none⟩ = some (.int .i64 x.side) ∧ w.cell? ⟨b, o + i * 7 + 2, none⟩ = some (.int .i64 x.fr) ∧ w.cell? ⟨b, o + i * 7 + 3, none⟩ = some (.int .i64 x.to) ∧ w.cell? ⟨b, o + i * 7 + 4, none⟩ = some (.int .i64 x.den) ∧ w.cell? ⟨b, o + i * 7 + 5, none⟩ = some (.int .i64 x.which) ∧ w.cell? ⟨b, o + i * 7 + 6, none⟩ = some (.int .u64 (x.n : Nat))
set_option maxRecDepth 100000 in
theorem open_act19s {H : Type} {enc : TypeId × Value → H} {w : World} {base b0 : Nat} {spare : Nat → Bool} {held : Bool} {r : Reach} {v : Value} {d : DataW H} {ps : List MemPlace}
    (hv : Value.okWide Try.prog w r b0 29 v) (h : DataW.Trod enc Try.prog w base spare held 29 v d ps) :
    ∃ a len cap l, v = .slice a len cap ∧ l.length = len ∧ len ≤ 9223372036854775807 ∧ len ≤ cap ∧
      (d = .nil ∧ l = [] ∨ ∃ sp, d = .slice (l.map fun x : A19 => .agg [.lit (.int .i64 x.what), .lit (.int .i64 x.side), .lit (.int .i64 x.fr), .lit (.int .i64 x.to), .lit (.int .i64 x.den), .lit (.int .i64 x.which), .lit (.int .u64 (x.n : Nat))]) sp) ∧ A19At w a l := by
  haveI : Inhabited A19 := ⟨⟨0, 0, 0, 0, 0, 0, 0⟩⟩
  obtain ⟨a, len, cap, l, h1, h2, h3, h4, h5, h6, h7⟩ := open_rows Try.underlying29 7 (by kernel_rfl) (by omega) (fun x : A19 => [.int .i64 x.what, .int .i64 x.side, .int .i64 x.fr, .int .i64 x.to, .int .i64 x.den, .int .i64 x.which, .int .u64 (x.n : Nat)]) (fun _ => rfl)
    (fun x : A19 => .agg [.lit (.int .i64 x.what), .lit (.int .i64 x.side), .lit (.int .i64 x.fr), .lit (.int .i64 x.to), .lit (.int .i64 x.den), .lit (.int .i64 x.which), .lit (.int .u64 (x.n : Nat))]) (fun x => I64 x.what ∧ I64 x.side ∧ I64 x.fr ∧ I64 x.to ∧ I64 x.den ∧ I64 x.which ∧ U64 x.n) elem_act19 hv h
  refine ⟨a, len, cap, l, h1, h2, h3, h4, h5, ?_⟩
  intro i x hx
  obtain ⟨b, o, ha, hb, hc⟩ := h7 i x hx
  exact ⟨b, o, ha, hb, h6 x (List.mem_of_getElem? hx), hc 0 _ rfl, hc 1 _ rfl, hc 2 _ rfl, hc 3 _ rfl, hc 4 _ rfl, hc 5 _ rfl, hc 6 _ rfl⟩

set_option maxRecDepth 100000 in
theorem elem_coin {H : Type} {enc : TypeId × Value → H} {w : World} {base : Nat} {spare : Nat → Bool} {held : Bool} : ∀ (fuel : Nat) (cs : List Value) (z : DataW H × List MemPlace),
    DataW.trod enc Try.prog w base spare held fuel 41 cs = some z → ∃ x : Co, cs = [.string ⟨x.den.toArray⟩, .int .u64 (x.amt : Nat), .string ⟨x.fr.toArray⟩, .string ⟨x.to.toArray⟩] ∧ z.1 = .agg [.lit (.string x.den), .lit (.int .u64 (x.amt : Nat)), .lit (.string x.fr), .lit (.string x.to)] ∧ (x.den.length ≤ 9223372036854775807 ∧ U64 x.amt ∧ x.fr.length ≤ 9223372036854775807 ∧ x.to.length ≤ 9223372036854775807) := by
  intro fuel cs z hz
  have hel : ∀ (n : Nat) (c : Value) (y : DataW H × List MemPlace), DataW.trod enc Try.prog w base spare held n 3 [c] = some y → ∃ m : Int, c = .int .i64 m ∧ y = (.lit (.int .i64 m), []) ∧ I64 m := by
    intro n c y e
    obtain ⟨m, c1, hy, wm⟩ := DataW.trod_int Try.underlying3 e
    simp at c1
    exact ⟨m, c1, hy, wf_i64 wm⟩
  have heu : ∀ (n : Nat) (c : Value) (y : DataW H × List MemPlace), DataW.trod enc Try.prog w base spare held n 22 [c] = some y → ∃ m : Nat, c = .int .u64 (m : Nat) ∧ y = (.lit (.int .u64 (m : Nat)), []) ∧ U64 m := by
    intro n c y e
    obtain ⟨m, c1, hy, wm⟩ := DataW.trod_int Try.underlying22 e
    simp at c1
    obtain ⟨k, rfl, hk⟩ := wf_u64 wm
    exact ⟨k, c1, hy, hk⟩
  have hes : ∀ (n : Nat) (c : Value) (y : DataW H × List MemPlace), DataW.trod enc Try.prog w base spare held n 9 [c] = some y → ∃ s : List UInt8, c = .string ⟨s.toArray⟩ ∧ y = (.lit (.string s), []) ∧ s.length ≤ 9223372036854775807 := by
    intro n c y e
    obtain ⟨s, c1, hy, ws⟩ := DataW.trod_string Try.underlying9 e
    simp at c1
    exact ⟨s.data.toList, c1.trans (congrArg _ (str_mk s)), hy, by rw [Array.length_toList]; exact ws⟩
  obtain ⟨ys, n, _, hx', hcs, hlen, hg⟩ := DataW.trod_struct Try.underlying41 hz
  have hl : cs.length = 4 := hcs.trans (by kernel_rfl)
  match cs, hl, ys, hlen with
  | [q0, q1, q2, q3], _, [y0, y1, y2, y3], _ =>
    have g0 := hg 0 ⟨"Denom", 9, 0, false, "", "", 0⟩ rfl
    have g1 := hg 1 ⟨"Amount", 22, 1, false, "", "", 16⟩ rfl
    have g2 := hg 2 ⟨"From", 9, 2, false, "", "", 24⟩ rfl
    have g3 := hg 3 ⟨"To", 9, 3, false, "", "", 40⟩ rfl
    rw [show Try.prog.cellsOf 22 = 1 by kernel_rfl] at g1
    rw [show Try.prog.cellsOf 9 = 1 by kernel_rfl] at g0 g2 g3
    obtain ⟨m0, rfl, e0, w0⟩ := hes n q0 y0 (by simpa using g0)
    obtain ⟨m1, rfl, e1, w1⟩ := heu n q1 y1 (by simpa using g1)
    obtain ⟨m2, rfl, e2, w2⟩ := hes n q2 y2 (by simpa using g2)
    obtain ⟨m3, rfl, e3, w3⟩ := hes n q3 y3 (by simpa using g3)
    refine ⟨⟨m0, m1, m2, m3⟩, rfl, ?_, w0, w1, w2, w3⟩
    rw [hx', e0, e1, e2, e3]
    rfl
set_option maxRecDepth 100000 in
theorem open_coin {H : Type} {enc : TypeId × Value → H} {w : World} {base b0 : Nat} {spare : Nat → Bool} {held : Bool} {r : Reach} {v : Value} {d : DataW H} {ps : List MemPlace}
    (hv : Value.okWide Try.prog w r b0 41 v) (h : DataW.Trod enc Try.prog w base spare held 41 v d ps) :
    ∃ x : Co, v = .agg #[.string ⟨x.den.toArray⟩, .int .u64 (x.amt : Nat), .string ⟨x.fr.toArray⟩, .string ⟨x.to.toArray⟩] ∧ d = .agg [.lit (.string x.den), .lit (.int .u64 (x.amt : Nat)), .lit (.string x.fr), .lit (.string x.to)] ∧ (x.den.length ≤ 9223372036854775807 ∧ U64 x.amt ∧ x.fr.length ≤ 9223372036854775807 ∧ x.to.length ≤ 9223372036854775807) := by
  obtain ⟨cs, rfl, hsz⟩ := okWide_struct Try.underlying41 hv
  obtain ⟨fuel, hf⟩ := h
  obtain ⟨x, h1, h2, h3⟩ := elem_coin fuel _ _ hf
  refine ⟨x, ?_, h2, h3⟩
  have h4 : cs.toList = _ := h1
  cases cs
  simp at h4
  rw [h4]
/-- they lie in memory from an address on -/
def CoAt (w : World) (a : Option Addr) (l : List Co) : Prop :=
  ∀ i x, l[i]? = some x → ∃ b o, a = some ⟨b, o, none⟩ ∧ b < w.heap.size ∧ (x.den.length ≤ 9223372036854775807 ∧ U64 x.amt ∧ x.fr.length ≤ 9223372036854775807 ∧ x.to.length ≤ 9223372036854775807) ∧ w.cell? ⟨b, o + i * 4, none⟩ = some (.string ⟨x.den.toArray⟩) ∧ w.cell? ⟨b, o + i * 4 + 1, none⟩ = some (.int .u64 (x.amt : Nat)) ∧ w.cell? ⟨b, o + i * 4 + 2, none⟩ = some (.string ⟨x.fr.toArray⟩) ∧ w.cell? ⟨b, o + i * 4 + 3, none⟩ = some (.string ⟨x.to.toArray⟩)
set_option maxRecDepth 100000 in
theorem open_coins {H : Type} {enc : TypeId × Value → H} {w : World} {base b0 : Nat} {spare : Nat → Bool} {held : Bool} {r : Reach} {v : Value} {d : DataW H} {ps : List MemPlace}
    (hv : Value.okWide Try.prog w r b0 30 v) (h : DataW.Trod enc Try.prog w base spare held 30 v d ps) :
    ∃ a len cap l, v = .slice a len cap ∧ l.length = len ∧ len ≤ 9223372036854775807 ∧ len ≤ cap ∧
      (d = .nil ∧ l = [] ∨ ∃ sp, d = .slice (l.map fun x : Co => .agg [.lit (.string x.den), .lit (.int .u64 (x.amt : Nat)), .lit (.string x.fr), .lit (.string x.to)]) sp) ∧ CoAt w a l := by
  haveI : Inhabited Co := ⟨⟨[], 0, [], []⟩⟩
  obtain ⟨a, len, cap, l, h1, h2, h3, h4, h5, h6, h7⟩ := open_rows Try.underlying30 4 (by kernel_rfl) (by omega) (fun x : Co => [.string ⟨x.den.toArray⟩, .int .u64 (x.amt : Nat), .string ⟨x.fr.toArray⟩, .string ⟨x.to.toArray⟩]) (fun _ => rfl)
    (fun x : Co => .agg [.lit (.string x.den), .lit (.int .u64 (x.amt : Nat)), .lit (.string x.fr), .lit (.string x.to)]) (fun x => x.den.length ≤ 9223372036854775807 ∧ U64 x.amt ∧ x.fr.length ≤ 9223372036854775807 ∧ x.to.length ≤ 9223372036854775807) elem_coin hv h
  refine ⟨a, len, cap, l, h1, h2, h3, h4, h5, ?_⟩
  intro i x hx
  obtain ⟨b, o, ha, hb, hc⟩ := h7 i x hx
  exact ⟨b, o, ha, hb, h6 x (List.mem_of_getElem? hx), hc 0 _ rfl, hc 1 _ rfl, hc 2 _ rfl, hc 3 _ rfl⟩
end Go.Proofs.Ytcldbipipehedaa
