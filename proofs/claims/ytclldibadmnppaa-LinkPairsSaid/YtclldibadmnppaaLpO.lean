/-
  OPENING a slice of acts (voussoirlaw17.Act). No walk here.
-/
import Derived.Test.YtclldibadmnppaaOpen
import Derived.Test.YtclldibadmnppaaLpG
namespace Go.Proofs.Ytclldibadmnppaa
open Go.ChangeShapes Go.WideShapes Go.ChangeAt Go.RowKit
set_option maxRecDepth 100000 in
theorem elem_act17 {H : Type} {enc : TypeId × Value → H} {w : World} {base : Nat} {spare : Nat → Bool} {held : Bool} : ∀ (fuel : Nat) (cs : List Value) (z : DataW H × List MemPlace),
    DataW.trod enc Try.prog w base spare held fuel 33 cs = some z → ∃ x : A17, cs = [.int .i64 x.what, .int .i64 x.chain, .int .i64 x.own, .int .i64 x.peer, .int .i64 x.a, .int .i64 x.b] ∧ z.1 = .agg [.lit (.int .i64 x.what), .lit (.int .i64 x.chain), .lit (.int .i64 x.own), .lit (.int .i64 x.peer), .lit (.int .i64 x.a), .lit (.int .i64 x.b)] ∧ (I64 x.what ∧ I64 x.chain ∧ I64 x.own ∧ I64 x.peer ∧ I64 x.a ∧ I64 x.b) := by
  intro fuel cs z hz
  have hel : ∀ (n : Nat) (c : Value) (y : DataW H × List MemPlace), DataW.trod enc Try.prog w base spare held n 3 [c] = some y → ∃ m : Int, c = .int .i64 m ∧ y = (.lit (.int .i64 m), []) ∧ I64 m := by
    intro n c y e
    obtain ⟨m, c1, hy, wm⟩ := DataW.trod_int Try.underlying3 e
    simp at c1
    exact ⟨m, c1, hy, wf_i64 wm⟩
  obtain ⟨ys, n, _, hx', hcs, hlen, hg⟩ := DataW.trod_struct Try.underlying33 hz
  have hl : cs.length = 6 := hcs.trans (by kernel_rfl)
  match cs, hl, ys, hlen with
  | [q0, q1, q2, q3, q4, q5], _, [y0, y1, y2, y3, y4, y5], _ =>
    have g0 := hg 0 ⟨"What", 3, 0, false, "", "", 0⟩ rfl
    have g1 := hg 1 ⟨"Chain", 3, 1, false, "", "", 8⟩ rfl
    have g2 := hg 2 ⟨"Own", 3, 2, false, "", "", 16⟩ rfl
    have g3 := hg 3 ⟨"Peer", 3, 3, false, "", "", 24⟩ rfl
    have g4 := hg 4 ⟨"A", 3, 4, false, "", "", 32⟩ rfl
    have g5 := hg 5 ⟨"B", 3, 5, false, "", "", 40⟩ rfl
    rw [show Try.prog.cellsOf 3 = 1 by kernel_rfl] at g0 g1 g2 g3 g4 g5
    obtain ⟨m0, rfl, e0, w0⟩ := hel n q0 y0 (by simpa using g0)
    obtain ⟨m1, rfl, e1, w1⟩ := hel n q1 y1 (by simpa using g1)
    obtain ⟨m2, rfl, e2, w2⟩ := hel n q2 y2 (by simpa using g2)
    obtain ⟨m3, rfl, e3, w3⟩ := hel n q3 y3 (by simpa using g3)
    obtain ⟨m4, rfl, e4, w4⟩ := hel n q4 y4 (by simpa using g4)
    obtain ⟨m5, rfl, e5, w5⟩ := hel n q5 y5 (by simpa using g5)
    refine ⟨⟨m0, m1, m2, m3, m4, m5⟩, rfl, ?_, w0, w1, w2, w3, w4, w5⟩
    rw [hx', e0, e1, e2, e3, e4, e5]
    rfl
set_option maxRecDepth 100000 in
theorem open_act17s {H : Type} {enc : TypeId × Value → H} {w : World} {base b0 : Nat} {spare : Nat → Bool} {held : Bool} {r : Reach} {v : Value} {d : DataW H} {ps : List MemPlace}
    (hv : Value.okWide Try.prog w r b0 22 v) (h : DataW.Trod enc Try.prog w base spare held 22 v d ps) :
    ∃ a len cap l, v = .slice a len cap ∧ l.length = len ∧ len ≤ 9223372036854775807 ∧ len ≤ cap ∧
      (d = .nil ∧ l = [] ∨ ∃ sp, d = .slice (l.map fun x : A17 => .agg [.lit (.int .i64 x.what), .lit (.int .i64 x.chain), .lit (.int .i64 x.own), .lit (.int .i64 x.peer), .lit (.int .i64 x.a), .lit (.int .i64 x.b)]) sp) ∧ A17At w a l := by
  haveI : Inhabited A17 := ⟨⟨0, 0, 0, 0, 0, 0⟩⟩
  obtain ⟨a, len, cap, l, h1, h2, h3, h4, h5, h6, h7⟩ := open_rows Try.underlying22 6 (by kernel_rfl) (by omega) (fun x : A17 => [.int .i64 x.what, .int .i64 x.chain, .int .i64 x.own, .int .i64 x.peer, .int .i64 x.a, .int .i64 x.b]) (fun _ => rfl)
    (fun x : A17 => .agg [.lit (.int .i64 x.what), .lit (.int .i64 x.chain), .lit (.int .i64 x.own), .lit (.int .i64 x.peer), .lit (.int .i64 x.a), .lit (.int .i64 x.b)]) (fun x => I64 x.what ∧ I64 x.chain ∧ I64 x.own ∧ I64 x.peer ∧ I64 x.a ∧ I64 x.b) elem_act17 hv h
  refine ⟨a, len, cap, l, h1, h2, h3, h4, h5, ?_⟩
  intro i x hx
  obtain ⟨b, o, ha, hb, hc⟩ := h7 i x hx
  exact ⟨b, o, ha, hb, h6 x (List.mem_of_getElem? hx), hc 0 _ rfl, hc 1 _ rfl, hc 2 _ rfl, hc 3 _ rfl, hc 4 _ rfl, hc 5 _ rfl⟩
end Go.Proofs.Ytclldibadmnppaa
