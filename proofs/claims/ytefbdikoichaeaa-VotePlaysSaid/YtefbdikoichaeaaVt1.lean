/-
  VOTE: numbers laid as floats, there and back; vote.block's height and parent.
-/
import Derived.Test.YtefbdikoichaeaaProg
import Derived.Test.YtefbdikoichaeaaMath
import Derived.Test.YtefbdikoichaeaaMem
import Derived.Handy
namespace Go.Proofs.Ytefbdikoichaeaa
open Go.RowKit

theorem cell_blk {w : World} {b : Nat} {c : Array Value} {T : TypeId} {f : Nat × Nat} (h : w.heap[b]? = some (.cells c T f)) (i : Nat) : w.cell? ⟨b, i, none⟩ = c[i]? := by
  simp [World.cell?, h]
theorem frozen_blk {w : World} {b : Nat} {c : Array Value} {T : TypeId} (h : w.heap[b]? = some (.cells c T (0, 0))) (i : Nat) : w.frozen? ⟨b, i, none⟩ = false := by
  simp [World.frozen?, h]
theorem heap_setCell_blk {w : World} {b : Nat} {c : Array Value} {T : TypeId} {f : Nat × Nat} (h : w.heap[b]? = some (.cells c T f)) (i : Nat) (u : Value) : (w.setCell ⟨b, i, none⟩ u).heap[b]? = some (.cells (c.setIfInBounds i u) T f) := by
  simp [World.setCell, Array.getElem?_modify, h]

theorem New.refl (w : World) : New w w := Keeps.refl _ w
/-- a number as a float's bits -/
def fl (n : Nat) : Nat := FloatKind.f64.nearest (n : Int)
theorem there_back : ∀ n : Fin 258, (FloatKind.f64.decode (FloatKind.f64.nearest (n.val : Int))).toInt .zero = some (n.val : Int) := by decide +kernel
theorem fl_back (n : Nat) (h : n < 258) : (FloatKind.f64.decode (fl n)).toInt .zero = some (n : Int) := there_back ⟨n, h⟩

theorem height_any (view : Int) (h p : Nat) (hh : h < 258) (w : World) :
    Calls Try.prog 37 #[.agg #[.int .u64 view, .complex .f64 (fl h) (fl p)]] w fun e w' => e = .returned (.int .i64 h) ∧ New w w' := by
  have hb := fl_back h hh
  have hr : ∀ w : World, (Builtin.real_ #[59] 67 #[.complex .f64 (fl h) (fl p)]).run Try.prog w = .ok (.float .f64 (fl h)) w := fun w => rfl
  have h1 : (-9223372036854775808 : Int) ≤ (h : Int) ∧ (h : Int) ≤ 9223372036854775807 := by omega
  have hv : ∀ w : World, (convert 67 3 (.float .f64 (fl h))).run Try.prog w = .ok (.int .i64 h) w := fun w => by
    have e : Conv.floatToInt .f64 (fl h) .i64 = pure (.int .i64 (h : Int)) := by
      unfold Conv.floatToInt
      rw [hb]
      exact if_pos h1
    simp [convert, go_sem, e]
  go_enter Try.func37, Try.ntmps37
  go_wp2
  go_ret
  exact ⟨rfl, New.of_below (by go_grown)⟩
theorem parent_any (view : Int) (h p : Nat) (hp : p < 258) (w : World) :
    Calls Try.prog 38 #[.agg #[.int .u64 view, .complex .f64 (fl h) (fl p)]] w fun e w' => e = .returned (.int .i64 p) ∧ New w w' := by
  have hb := fl_back p hp
  have hr : ∀ w : World, (Builtin.imag_ #[59] 67 #[.complex .f64 (fl h) (fl p)]).run Try.prog w = .ok (.float .f64 (fl p)) w := fun w => rfl
  have h1 : (-9223372036854775808 : Int) ≤ (p : Int) ∧ (p : Int) ≤ 9223372036854775807 := by omega
  have hv : ∀ w : World, (convert 67 3 (.float .f64 (fl p))).run Try.prog w = .ok (.int .i64 p) w := fun w => by
    have e : Conv.floatToInt .f64 (fl p) .i64 = pure (.int .i64 (p : Int)) := by
      unfold Conv.floatToInt
      rw [hb]
      exact if_pos h1
    simp [convert, go_sem, e]
  go_enter Try.func38, Try.ntmps38
  go_wp2
  go_ret
  exact ⟨rfl, New.of_below (by go_grown)⟩
end Go.Proofs.Ytefbdikoichaeaa
