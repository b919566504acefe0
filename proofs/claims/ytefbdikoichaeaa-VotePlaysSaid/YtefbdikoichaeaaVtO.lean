/-
  OPENING ARGUMENTS: a slice whose elements are of whatever make, as a list; acts, ints, uint64s, a voter. No walk here.
-/
import Derived.Test.YtefbdikoichaeaaRows
import Derived.Test.YtefbdikoichaeaaVt9
import Derived.ProofKit
import Derived.OpenShut
import Derived.ShutString
import Derived.ChangeOld
import Derived.SizedLaws
import Derived.JoinedCond
import Derived.Deep.CondSized
import Derived.Deep.Slices
import Derived.Deep.Strs
import Derived.Lib.SmallJoins
namespace Go.Proofs.Ytefbdikoichaeaa
open Go.ChangeShapes Go.WideShapes Go.ChangeAt Go.RowKit Go.Deep

theorem own : ownKnob Try.prog.godebug = none := by kernel_rfl
theorem laidOut : laidOutB Try.prog = true := by kernel_rfl

theorem addr_add_none (b o n : Nat) : (⟨b, o, none⟩ : Addr).add n = ⟨b, o + n, none⟩ := by
  unfold Addr.add
  split
  · rename_i h; subst h; rfl
  · rfl

/-- the rows of a slice lie in memory from an address on: k cells each -/
def Rws {α : Type} (w : World) (a : Option Addr) (k : Nat) (S : α → List Value) (l : List α) : Prop :=
  ∀ i x, l[i]? = some x → ∃ b o, a = some ⟨b, o, none⟩ ∧ b < w.heap.size ∧ ∀ j u, (S x)[j]? = some u → w.cell? ⟨b, o + i * k + j, none⟩ = some u

theorem open_rows {α : Type} [Inhabited α] {P : Program} {H : Type} {enc : TypeId × Value → H} {w : World} {base b0 : Nat} {spare : Nat → Bool} {held : Bool} {r : Reach} {t e : TypeId} {v : Value} {d : DataW H} {ps : List MemPlace}
    (ht : P.underlying t = some (.slice e)) (k : Nat) (hc : P.cellsOf e = k) (hk : 0 < k) (S : α → List Value) (hS : ∀ x, (S x).length = k) (dat : α → DataW H) (ok : α → Prop)
    (helem : ∀ fuel cs x, DataW.trod enc P w base spare held fuel e cs = some x → ∃ a, cs = S a ∧ x.1 = dat a ∧ ok a)
    (hv : Value.okWide P w r b0 t v) (h : DataW.Trod enc P w base spare held t v d ps) :
    ∃ a len cap l, v = .slice a len cap ∧ l.length = len ∧ len ≤ 9223372036854775807 ∧ len ≤ cap ∧ (d = .nil ∧ l = [] ∨ ∃ sp, d = .slice (l.map dat) sp) ∧ (∀ x ∈ l, ok x) ∧ Rws w a k S l := by
  obtain ⟨a, len, cap, rfl⟩ := okWide_slice ht hv
  obtain ⟨fuel, hf⟩ := h
  rcases open_slice ht hf with ⟨hcs, hx⟩ | ⟨a', len', cap', m, n, D, Pl, hcs, _, hl, hm, hmm, hx, hel⟩
  · simp [Value.cells] at hcs
    obtain ⟨rfl, rfl, rfl⟩ := hcs
    simp only [Prod.mk.injEq] at hx
    exact ⟨none, 0, 0, [], rfl, rfl, by omega, by omega, .inl ⟨hx.1, rfl⟩, (fun _ h => by cases h), fun i x h => by simp at h⟩
  · simp [Value.cells] at hcs
    obtain ⟨rfl, rfl, rfl⟩ := hcs
    simp only [Prod.mk.injEq] at hx
    have hlm : len ≤ m := by rw [hmm]; split <;> omega
    obtain ⟨F, hF⟩ := choose_lt (α := α) (p := fun i x => (∀ j u, (S x)[j]? = some u → w.cell? ((a'.add (i * k)).add j) = some u) ∧ D i = dat x ∧ ok x) (n := len) (fun i hi => by
      obtain ⟨cs', h1, h2⟩ := hel i (by omega)
      obtain ⟨x, rfl, hd, hok⟩ := helem _ _ _ h2
      obtain ⟨_, _, hcell⟩ := World.cells?_some h1
      refine ⟨x, fun j u hu => ?_, hd, hok⟩
      have hj : j < k := by have := (List.getElem?_eq_some_iff.1 hu).1; rw [hS] at this; exact this
      rw [hc] at hcell
      exact (hcell j hj).trans hu)
    refine ⟨some a', len, cap, (List.range len).map F, rfl, by simp, by unfold maxLen at hm; omega, hl, .inr ⟨(List.range (m - len)).map fun j => D (len + j), ?_⟩, ?_, ?_⟩
    · rw [hx.1]
      congr 1
      rw [List.map_map]
      apply List.map_congr_left
      intro i hi
      exact (hF i (by simpa using hi)).2.1
    · intro x hx
      obtain ⟨i, hi, rfl⟩ := List.mem_map.1 hx
      exact (hF i (by simpa using hi)).2.2
    · intro i x hx
      have hi : i < len := by have := (List.getElem?_eq_some_iff.1 hx).1; simpa using this
      have hxe : F i = x := by simpa [hi] using hx
      subst hxe
      obtain ⟨u, hu⟩ : ∃ u, (S (F 0))[0]? = some u := ⟨_, List.getElem?_eq_getElem (by rw [hS]; exact hk)⟩
      have h00 := (hF 0 (by omega)).1 0 u hu
      obtain ⟨b, off, spot⟩ := a'
      have hspot : spot = none := by simpa [Addr.add] using World.cell?_spot h00
      subst hspot
      have hlt := World.block_lt_of_cell? w _ h00
      rw [addr_add_none, addr_add_none] at hlt
      refine ⟨b, off, rfl, hlt, fun j u hu => ?_⟩
      have := (hF i hi).1 j u hu
      rw [addr_add_none, addr_add_none] at this
      exact this

theorem wf_i64 {n : Int} (h : (Lit.int .i64 n).wf = true) : I64 n := by
  simpa [Lit.wf, IntKind.min, IntKind.max, IntKind.signed, IntKind.bits, I64] using h
theorem wf_u64 {n : Int} (h : (Lit.int .u64 n).wf = true) : ∃ m : Nat, n = (m : Int) ∧ U64 m := by
  have h2 : 0 ≤ n ∧ n ≤ 18446744073709551615 := by simpa [Lit.wf, IntKind.min, IntKind.max, IntKind.signed, IntKind.bits] using h
  exact ⟨n.toNat, by omega, by show _ < _; omega⟩

/-- '[]voussoirlaw13.Act' -/
theorem open_acts {H : Type} {enc : TypeId × Value → H} {w : World} {base b0 : Nat} {spare : Nat → Bool} {held : Bool} {r : Reach} {v : Value} {d : DataW H} {ps : List MemPlace}
    (hv : Value.okWide Try.prog w r b0 22 v) (h : DataW.Trod enc Try.prog w base spare held 22 v d ps) :
    ∃ a len cap l, v = .slice a len cap ∧ l.length = len ∧ len ≤ 9223372036854775807 ∧ len ≤ cap ∧
      (d = .nil ∧ l = [] ∨ ∃ sp, d = .slice (l.map fun x : Ac => .agg [.lit (.int .i64 x.what), .lit (.int .i64 x.on), .lit (.int .i64 x.view), .lit (.int .i64 x.who)]) sp) ∧ ActsAt w a l := by
  haveI : Inhabited Ac := ⟨⟨0, 0, 0, 0⟩⟩
  obtain ⟨a, len, cap, l, h1, h2, h3, h4, h5, h6, h7⟩ := open_rows Try.underlying22 4 (by kernel_rfl) (by omega) (fun x : Ac => [.int .i64 x.what, .int .i64 x.on, .int .i64 x.view, .int .i64 x.who]) (fun _ => rfl)
    (fun x : Ac => .agg [.lit (.int .i64 x.what), .lit (.int .i64 x.on), .lit (.int .i64 x.view), .lit (.int .i64 x.who)]) (fun x => I64 x.what ∧ I64 x.on ∧ I64 x.view ∧ I64 x.who) (by
      intro fuel cs x hx
      have hel : ∀ (n : Nat) (c : Value) (y : DataW H × List MemPlace), DataW.trod enc Try.prog w base spare held n 3 [c] = some y → ∃ m : Int, c = .int .i64 m ∧ y = (.lit (.int .i64 m), []) ∧ I64 m := by
        intro n c y e
        obtain ⟨m, c1, hy, wm⟩ := DataW.trod_int Try.underlying3 e
        simp at c1
        exact ⟨m, c1, hy, wf_i64 wm⟩
      obtain ⟨ys, n, _, hx', hcs, hlen, hg⟩ := DataW.trod_struct Try.underlying28 hx
      have hl4 : cs.length = 4 := hcs.trans (by kernel_rfl)
      match cs, hl4, ys, hlen with
      | [q0, q1, q2, q3], _, [y0, y1, y2, y3], _ =>
        have g0 := hg 0 ⟨"What", 3, 0, false, "", "", 0⟩ rfl
        have g1 := hg 1 ⟨"On", 3, 1, false, "", "", 8⟩ rfl
        have g2 := hg 2 ⟨"View", 3, 2, false, "", "", 16⟩ rfl
        have g3 := hg 3 ⟨"Who", 3, 3, false, "", "", 24⟩ rfl
        rw [show Try.prog.cellsOf 3 = 1 by kernel_rfl] at g0 g1 g2 g3
        obtain ⟨m0, rfl, e0, w0⟩ := hel n q0 y0 (by simpa using g0)
        obtain ⟨m1, rfl, e1, w1⟩ := hel n q1 y1 (by simpa using g1)
        obtain ⟨m2, rfl, e2, w2⟩ := hel n q2 y2 (by simpa using g2)
        obtain ⟨m3, rfl, e3, w3⟩ := hel n q3 y3 (by simpa using g3)
        refine ⟨⟨m0, m1, m2, m3⟩, rfl, ?_, w0, w1, w2, w3⟩
        rw [hx', e0, e1, e2, e3]
        rfl) hv h
  refine ⟨a, len, cap, l, h1, h2, h3, h4, h5, ?_⟩
  intro i x hx
  obtain ⟨b, o, ha, hb, hc⟩ := h7 i x hx
  exact ⟨b, o, ha, hb, h6 x (List.mem_of_getElem? hx), hc 0 _ rfl, hc 1 _ rfl, hc 2 _ rfl, hc 3 _ rfl⟩

/-- ints lie in memory from an address on -/
def IntsAt (w : World) (a : Option Addr) (z : List Int) : Prop :=
  ∀ i x, z[i]? = some x → ∃ b o, a = some ⟨b, o, none⟩ ∧ b < w.heap.size ∧ I64 x ∧ w.cell? ⟨b, o + i, none⟩ = some (.int .i64 x)
def U64sAt (w : World) (a : Option Addr) (z : List Nat) : Prop :=
  ∀ i x, z[i]? = some x → ∃ b o, a = some ⟨b, o, none⟩ ∧ b < w.heap.size ∧ U64 x ∧ w.cell? ⟨b, o + i, none⟩ = some (.int .u64 x)
theorem open_intsl {H : Type} {enc : TypeId × Value → H} {w : World} {base b0 : Nat} {spare : Nat → Bool} {held : Bool} {r : Reach} {v : Value} {d : DataW H} {ps : List MemPlace}
    (hv : Value.okWide Try.prog w r b0 40 v) (h : DataW.Trod enc Try.prog w base spare held 40 v d ps) :
    ∃ a len cap l, v = .slice a len cap ∧ l.length = len ∧ len ≤ 9223372036854775807 ∧ len ≤ cap ∧ (d = .nil ∧ l = [] ∨ ∃ sp, d = .slice (l.map fun x : Int => .lit (.int .i64 x)) sp) ∧ IntsAt w a l := by
  obtain ⟨a, len, cap, l, h1, h2, h3, h4, h5, h6, h7⟩ := open_rows Try.underlying40 1 (by kernel_rfl) (by omega) (fun x : Int => [.int .i64 x]) (fun _ => rfl) (fun x : Int => .lit (.int .i64 x)) (fun x => I64 x) (by
      intro fuel cs x hx
      obtain ⟨m, c1, rfl, wm⟩ := DataW.trod_int Try.underlying3 hx
      exact ⟨m, c1, rfl, wf_i64 wm⟩) hv h
  refine ⟨a, len, cap, l, h1, h2, h3, h4, h5, fun i x hx => ?_⟩
  obtain ⟨b, o, ha, hb, hc⟩ := h7 i x hx
  exact ⟨b, o, ha, hb, h6 x (List.mem_of_getElem? hx), by have := hc 0 _ rfl; rw [Nat.mul_one] at this; exact this⟩
theorem open_u64sl {H : Type} {enc : TypeId × Value → H} {w : World} {base b0 : Nat} {spare : Nat → Bool} {held : Bool} {r : Reach} {v : Value} {d : DataW H} {ps : List MemPlace}
    (hv : Value.okWide Try.prog w r b0 41 v) (h : DataW.Trod enc Try.prog w base spare held 41 v d ps) :
    ∃ a len cap l, v = .slice a len cap ∧ l.length = len ∧ len ≤ 9223372036854775807 ∧ len ≤ cap ∧ (d = .nil ∧ l = [] ∨ ∃ sp, d = .slice (l.map fun x : Nat => .lit (.int .u64 x)) sp) ∧ U64sAt w a l := by
  obtain ⟨a, len, cap, l, h1, h2, h3, h4, h5, h6, h7⟩ := open_rows Try.underlying41 1 (by kernel_rfl) (by omega) (fun x : Nat => [.int .u64 x]) (fun _ => rfl) (fun x : Nat => .lit (.int .u64 x)) (fun x => U64 x) (by
      intro fuel cs x hx
      obtain ⟨m, c1, rfl, wm⟩ := DataW.trod_int Try.underlying33 hx
      obtain ⟨k, rfl, hk⟩ := wf_u64 wm
      exact ⟨k, c1, rfl, hk⟩) hv h
  refine ⟨a, len, cap, l, h1, h2, h3, h4, h5, fun i x hx => ?_⟩
  obtain ⟨b, o, ha, hb, hc⟩ := h7 i x hx
  exact ⟨b, o, ha, hb, h6 x (List.mem_of_getElem? hx), by have := hc 0 _ rfl; rw [Nat.mul_one] at this; exact this⟩
/-- 'api.Voter' by value -/
theorem open_voter {H : Type} {enc : TypeId × Value → H} {w : World} {base b0 : Nat} {spare : Nat → Bool} {held : Bool} {r : Reach} {v : Value} {d : DataW H} {ps : List MemPlace}
    (hv : Value.okWide Try.prog w r b0 43 v) (h : DataW.Trod enc Try.prog w base spare held 43 v d ps) :
    ∃ (voted : Nat) (lock : Int), v = .agg #[.int .u64 voted, .int .i64 lock] ∧ U64 voted ∧ I64 lock := by
  obtain ⟨v0, v1, y0, y1, n, rfl, _, _, e0, e1⟩ := Go.Joins.open_agg2 Try.underlying43 (by kernel_rfl) (by kernel_rfl) hv h
  obtain ⟨a, c0, _, w0⟩ := DataW.trod_int Try.underlying33 e0
  obtain ⟨b, c1, _, w1⟩ := DataW.trod_int Try.underlying3 e1
  simp at c0 c1
  subst c0 c1
  obtain ⟨a', rfl, h0⟩ := wf_u64 w0
  exact ⟨a', b, rfl, h0, wf_i64 w1⟩
end Go.Proofs.Ytefbdikoichaeaa
