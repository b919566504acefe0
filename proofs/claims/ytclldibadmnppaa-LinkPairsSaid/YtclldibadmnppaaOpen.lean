/-
  OPENING ARGUMENTS: a slice whose elements are of whatever make, as a list; what the bound on its bulk gives. No walk here.
-/
import Derived.Test.YtclldibadmnppaaRows
import Derived.Test.YtclldibadmnppaaCod6
import Derived.ProofKit
import Derived.OpenShut
import Derived.ShutString
import Derived.ChangeOld
import Derived.SizedLaws
import Derived.JoinedCond
import Derived.Deep.CondSized
import Derived.Deep.Slices
import Derived.Deep.Strs
import Derived.Lib.SmallJoins
namespace Go.Proofs.Ytclldibadmnppaa
open Go.ChangeShapes Go.WideShapes Go.ChangeAt Go.RowKit Go.Deep

theorem own : ownKnob Try.prog.godebug = none := by kernel_rfl
theorem laidOut : laidOutB Try.prog = true := by kernel_rfl

theorem addr_add_none (b o n : Nat) : (⟨b, o, none⟩ : Addr).add n = ⟨b, o + n, none⟩ := by
  unfold Addr.add
  split
  · rename_i h; subst h; rfl
  · rfl

/-- the rows of a slice lie in memory from an address on: k cells each -/
def Rws {α : Type} (w : World) (a : Option Addr) (k : Nat) (S : α → List Value) (l : List α) : Prop :=
  ∀ i x, l[i]? = some x → ∃ b o, a = some ⟨b, o, none⟩ ∧ b < w.heap.size ∧ ∀ j u, (S x)[j]? = some u → w.cell? ⟨b, o + i * k + j, none⟩ = some u

theorem open_rows {α : Type} [Inhabited α] {P : Program} {H : Type} {enc : TypeId × Value → H} {w : World} {base b0 : Nat} {spare : Nat → Bool} {held : Bool} {r : Reach} {t e : TypeId} {v : Value} {d : DataW H} {ps : List MemPlace}
    (ht : P.underlying t = some (.slice e)) (k : Nat) (hc : P.cellsOf e = k) (hk : 0 < k) (S : α → List Value) (hS : ∀ x, (S x).length = k) (dat : α → DataW H) (ok : α → Prop)
    (helem : ∀ fuel cs x, DataW.trod enc P w base spare held fuel e cs = some x → ∃ a, cs = S a ∧ x.1 = dat a ∧ ok a)
    (hv : Value.okWide P w r b0 t v) (h : DataW.Trod enc P w base spare held t v d ps) :
    ∃ a len cap l, v = .slice a len cap ∧ l.length = len ∧ len ≤ 9223372036854775807 ∧ len ≤ cap ∧ (d = .nil ∧ l = [] ∨ ∃ sp, d = .slice (l.map dat) sp) ∧ (∀ x ∈ l, ok x) ∧ Rws w a k S l := by
  obtain ⟨a, len, cap, rfl⟩ := okWide_slice ht hv
  obtain ⟨fuel, hf⟩ := h
  rcases open_slice ht hf with ⟨hcs, hx⟩ | ⟨a', len', cap', m, n, D, Pl, hcs, _, hl, hm, hmm, hx, hel⟩
  · simp [Value.cells] at hcs
    obtain ⟨rfl, rfl, rfl⟩ := hcs
    simp only [Prod.mk.injEq] at hx
    exact ⟨none, 0, 0, [], rfl, rfl, by omega, by omega, .inl ⟨hx.1, rfl⟩, (fun _ h => by cases h), fun i x h => by simp at h⟩
  · simp [Value.cells] at hcs
    obtain ⟨rfl, rfl, rfl⟩ := hcs
    simp only [Prod.mk.injEq] at hx
    have hlm : len ≤ m := by rw [hmm]; split <;> omega
    obtain ⟨F, hF⟩ := choose_lt (α := α) (p := fun i x => (∀ j u, (S x)[j]? = some u → w.cell? ((a'.add (i * k)).add j) = some u) ∧ D i = dat x ∧ ok x) (n := len) (fun i hi => by
      obtain ⟨cs', h1, h2⟩ := hel i (by omega)
      obtain ⟨x, rfl, hd, hok⟩ := helem _ _ _ h2
      obtain ⟨_, _, hcell⟩ := World.cells?_some h1
      refine ⟨x, fun j u hu => ?_, hd, hok⟩
      have hj : j < k := by have := (List.getElem?_eq_some_iff.1 hu).1; rw [hS] at this; exact this
      rw [hc] at hcell
      exact (hcell j hj).trans hu)
    refine ⟨some a', len, cap, (List.range len).map F, rfl, by simp, by unfold maxLen at hm; omega, hl, .inr ⟨(List.range (m - len)).map fun j => D (len + j), ?_⟩, ?_, ?_⟩
    · rw [hx.1]
      congr 1
      rw [List.map_map]
      apply List.map_congr_left
      intro i hi
      exact (hF i (by simpa using hi)).2.1
    · intro x hx
      obtain ⟨i, hi, rfl⟩ := List.mem_map.1 hx
      exact (hF i (by simpa using hi)).2.2
    · intro i x hx
      have hi : i < len := by have := (List.getElem?_eq_some_iff.1 hx).1; simpa using this
      have hxe : F i = x := by simpa [hi] using hx
      subst hxe
      obtain ⟨u, hu⟩ : ∃ u, (S (F 0))[0]? = some u := ⟨_, List.getElem?_eq_getElem (by rw [hS]; exact hk)⟩
      have h00 := (hF 0 (by omega)).1 0 u hu
      obtain ⟨b, off, spot⟩ := a'
      have hspot : spot = none := by simpa [Addr.add] using World.cell?_spot h00
      subst hspot
      have hlt := World.block_lt_of_cell? w _ h00
      rw [addr_add_none, addr_add_none] at hlt
      refine ⟨b, off, rfl, hlt, fun j u hu => ?_⟩
      have := (hF i hi).1 j u hu
      rw [addr_add_none, addr_add_none] at this
      exact this

theorem wf_i64 {n : Int} (h : (Lit.int .i64 n).wf = true) : I64 n := by
  simpa [Lit.wf, IntKind.min, IntKind.max, IntKind.signed, IntKind.bits, I64] using h
theorem wf_u64 {n : Int} (h : (Lit.int .u64 n).wf = true) : ∃ m : Nat, n = (m : Int) ∧ U64 m := by
  have h2 : 0 ≤ n ∧ n ≤ 18446744073709551615 := by simpa [Lit.wf, IntKind.min, IntKind.max, IntKind.signed, IntKind.bits] using h
  exact ⟨n.toNat, by omega, by show _ < _; omega⟩

/-- '[]voussoirlaw02.Item' -/
theorem open_items {H : Type} {enc : TypeId × Value → H} {w : World} {base b0 : Nat} {spare : Nat → Bool} {held : Bool} {r : Reach} {v : Value} {d : DataW H} {ps : List MemPlace}
    (hv : Value.okWide Try.prog w r b0 46 v) (h : DataW.Trod enc Try.prog w base spare held 46 v d ps) :
    ∃ a len cap l, v = .slice a len cap ∧ l.length = len ∧ len ≤ 9223372036854775807 ∧ len ≤ cap ∧
      (d = .nil ∧ l = [] ∨ ∃ sp, d = .slice (l.map fun x : It => .agg [.lit (.bool x.isT), .lit (.int .u64 x.n), .lit (.string x.s)]) sp) ∧ Items w a l := by
  haveI : Inhabited It := ⟨⟨false, 0, []⟩⟩
  obtain ⟨a, len, cap, l, h1, h2, h3, h4, h5, h6, h7⟩ := open_rows Try.underlying46 3 (by kernel_rfl) (by omega) (fun x : It => [.bool x.isT, .int .u64 x.n, .string ⟨x.s.toArray⟩]) (fun _ => rfl)
    (fun x : It => .agg [.lit (.bool x.isT), .lit (.int .u64 x.n), .lit (.string x.s)]) (fun x => U64 x.n) (by
      intro fuel cs x hx
      obtain ⟨y0, y1, y2, n, rfl, hl, e0, e1, e2⟩ := trod_struct3 Try.underlying50 hx
      obtain ⟨b, c0, rfl⟩ := DataW.trod_bool Try.underlying4 e0
      obtain ⟨m, c1, rfl, wm⟩ := DataW.trod_int Try.underlying34 e1
      obtain ⟨s, c2, rfl, ws⟩ := DataW.trod_string Try.underlying9 e2
      obtain ⟨m', rfl, hm⟩ := wf_u64 wm
      have hl3 : cs.length = 3 := hl.trans (by kernel_rfl)
      match cs, hl3 with
      | [q0, q1, q2], _ =>
        rw [show Try.prog.cellsOf 4 = 1 by kernel_rfl] at c0
        rw [show Try.prog.cellsOf 34 = 1 by kernel_rfl] at c1
        rw [show Try.prog.cellsOf 9 = 1 by kernel_rfl] at c2
        simp at c0 c1 c2
        subst c0 c1 c2
        exact ⟨⟨b, m', s.data.toList⟩, by simp, rfl, hm⟩) hv h
  refine ⟨a, len, cap, l, h1, h2, h3, h4, h5, ?_⟩
  intro i x hx
  obtain ⟨b, o, ha, hb, hc⟩ := h7 i x hx
  exact ⟨b, o, ha, hb, h6 x (List.mem_of_getElem? hx), hc 0 _ rfl, hc 1 _ rfl, hc 2 _ rfl⟩
/-- ints lie in memory from an address on -/
def IntsAt (w : World) (a : Option Addr) (z : List Int) : Prop :=
  ∀ i x, z[i]? = some x → ∃ b o, a = some ⟨b, o, none⟩ ∧ b < w.heap.size ∧ I64 x ∧ w.cell? ⟨b, o + i, none⟩ = some (.int .i64 x)
def BoolsAt (w : World) (a : Option Addr) (z : List Bool) : Prop :=
  ∀ i x, z[i]? = some x → ∃ b o, a = some ⟨b, o, none⟩ ∧ b < w.heap.size ∧ w.cell? ⟨b, o + i, none⟩ = some (.bool x)

/-- '[]int' -/
theorem open_intsl {H : Type} {enc : TypeId × Value → H} {w : World} {base b0 : Nat} {spare : Nat → Bool} {held : Bool} {r : Reach} {v : Value} {d : DataW H} {ps : List MemPlace}
    (hv : Value.okWide Try.prog w r b0 56 v) (h : DataW.Trod enc Try.prog w base spare held 56 v d ps) :
    ∃ a len cap l, v = .slice a len cap ∧ l.length = len ∧ len ≤ 9223372036854775807 ∧ len ≤ cap ∧ (d = .nil ∧ l = [] ∨ ∃ sp, d = .slice (l.map fun x : Int => .lit (.int .i64 x)) sp) ∧ IntsAt w a l := by
  obtain ⟨a, len, cap, l, h1, h2, h3, h4, h5, h6, h7⟩ := open_rows Try.underlying56 1 (by kernel_rfl) (by omega) (fun x : Int => [.int .i64 x]) (fun _ => rfl) (fun x : Int => .lit (.int .i64 x)) (fun x => I64 x) (by
      intro fuel cs x hx
      obtain ⟨m, c1, rfl, wm⟩ := DataW.trod_int Try.underlying3 hx
      exact ⟨m, c1, rfl, wf_i64 wm⟩) hv h
  refine ⟨a, len, cap, l, h1, h2, h3, h4, h5, fun i x hx => ?_⟩
  obtain ⟨b, o, ha, hb, hc⟩ := h7 i x hx
  exact ⟨b, o, ha, hb, h6 x (List.mem_of_getElem? hx), by have := hc 0 _ rfl; rw [Nat.mul_one] at this; exact this⟩

/-- '[]bool' -/
theorem open_boolsl {H : Type} {enc : TypeId × Value → H} {w : World} {base b0 : Nat} {spare : Nat → Bool} {held : Bool} {r : Reach} {v : Value} {d : DataW H} {ps : List MemPlace}
    (hv : Value.okWide Try.prog w r b0 65 v) (h : DataW.Trod enc Try.prog w base spare held 65 v d ps) :
    ∃ a len cap l, v = .slice a len cap ∧ l.length = len ∧ len ≤ 9223372036854775807 ∧ len ≤ cap ∧ (d = .nil ∧ l = [] ∨ ∃ sp, d = .slice (l.map fun x : Bool => .lit (.bool x)) sp) ∧ BoolsAt w a l := by
  obtain ⟨a, len, cap, l, h1, h2, h3, h4, h5, h6, h7⟩ := open_rows Try.underlying65 1 (by kernel_rfl) (by omega) (fun x : Bool => [.bool x]) (fun _ => rfl) (fun x : Bool => .lit (.bool x)) (fun _ => True) (by
      intro fuel cs x hx
      obtain ⟨m, c1, rfl⟩ := DataW.trod_bool Try.underlying4 hx
      exact ⟨m, c1, rfl, trivial⟩) hv h
  refine ⟨a, len, cap, l, h1, h2, h3, h4, h5, fun i x hx => ?_⟩
  obtain ⟨b, o, ha, hb, hc⟩ := h7 i x hx
  exact ⟨b, o, ha, hb, by have := hc 0 _ rfl; rw [Nat.mul_one] at this; exact this⟩

/-- 'api.Link' by value -/
theorem open_link {H : Type} {enc : TypeId × Value → H} {w : World} {base b0 : Nat} {spare : Nat → Bool} {held : Bool} {r : Reach} {v : Value} {d : DataW H} {ps : List MemPlace}
    (hv : Value.okWide Try.prog w r b0 36 v) (h : DataW.Trod enc Try.prog w base spare held 36 v d ps) :
    ∃ (st : Int) (cl pe pc : Nat), v = .agg #[.int .i64 st, .int .u64 cl, .int .u64 pe, .int .u64 pc] ∧ I64 st ∧ U64 cl ∧ U64 pe ∧ U64 pc := by
  obtain ⟨v0, v1, v2, v3, y0, y1, y2, y3, n, rfl, _, _, e0, e1, e2, e3⟩ := Go.Joins.open_agg4 Try.underlying36 (by kernel_rfl) (by kernel_rfl) hv h
  obtain ⟨st, c0, _, w0⟩ := DataW.trod_int Try.underlying3 e0
  obtain ⟨cl, c1, _, w1⟩ := DataW.trod_int Try.underlying34 e1
  obtain ⟨pe, c2, _, w2⟩ := DataW.trod_int Try.underlying34 e2
  obtain ⟨pc, c3, _, w3⟩ := DataW.trod_int Try.underlying34 e3
  simp at c0 c1 c2 c3
  subst c0 c1 c2 c3
  obtain ⟨cl', rfl, h1⟩ := wf_u64 w1
  obtain ⟨pe', rfl, h2⟩ := wf_u64 w2
  obtain ⟨pc', rfl, h3⟩ := wf_u64 w3
  exact ⟨st, cl', pe', pc', rfl, wf_i64 w0, h1, h2, h3⟩

end Go.Proofs.Ytclldibadmnppaa
