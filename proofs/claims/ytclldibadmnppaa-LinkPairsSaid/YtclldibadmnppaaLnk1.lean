/-
  WALKS: link.Init, Try, Ack, Confirm, mirror, right; voussoirlaw17's pick.
-/
import Derived.Test.YtclldibadmnppaaCod5
namespace Go.Proofs.Ytclldibadmnppaa
open Go.RowKit

theorem cells4 {w : World} {b : Nat} {c0 c1 c2 c3 : Value} {T : TypeId} (h : w.heap[b]? = some (.cells #[c0, c1, c2, c3] T (0, 0))) :
    (w.cell? ⟨b, 0, none⟩ = some c0 ∧ w.cell? ⟨b, 1, none⟩ = some c1 ∧ w.cell? ⟨b, 2, none⟩ = some c2 ∧ w.cell? ⟨b, 3, none⟩ = some c3) ∧
    w.frozen? ⟨b, 0, none⟩ = false ∧ w.frozen? ⟨b, 1, none⟩ = false ∧ w.frozen? ⟨b, 2, none⟩ = false ∧ w.frozen? ⟨b, 3, none⟩ = false := by
  refine ⟨⟨?_, ?_, ?_, ?_⟩, frozen_blk h 0, frozen_blk h 1, frozen_blk h 2, frozen_blk h 3⟩ <;> rw [cell_blk h] <;> rfl
theorem blk3_0 (w : World) (a b c : Obj) : (((w.alloc a).alloc b).alloc c).heap[w.heap.size]? = some a := by
  rw [heap_alloc_old _ _ (by simp; omega), heap_alloc_old _ _ (by simp), heap_alloc_new]
theorem blk3_1 (w : World) (a b c : Obj) : (((w.alloc a).alloc b).alloc c).heap[w.heap.size + 1]? = some b := by
  rw [heap_alloc_old _ _ (by simp)]
  have := heap_alloc_new (w.alloc a) b
  simpa using this
theorem blk3_2 (w : World) (a b c : Obj) : (((w.alloc a).alloc b).alloc c).heap[w.heap.size + 2]? = some c := by
  have := heap_alloc_new ((w.alloc a).alloc b) c
  simpa using this

theorem Keeps.set {w0 w : World} {a : Nat} (h : New w0 w) (ha : w0.heap.size ≤ a) (i : Nat) (x : Value) : New w0 (w.setCell ⟨a, i, none⟩ x) :=
  Keeps.setCell (S := fun _ => False) (p := ⟨a, i, none⟩) h (.inr ha) x
/-- two structs of four fields, stored one behind the other -/
theorem st8_1 {w W : World} {a b : Nat} {c0 c1 c2 c3 x0 x1 x2 x3 y0 y1 y2 y3 : Value} {T : TypeId} (h : w.heap[a]? = some (.cells #[c0, c1, c2, c3] T (0, 0))) (hab : a ≠ b)
    (hW : World.setCell (World.setCell (World.setCell (World.setCell (World.setCell (World.setCell (World.setCell (World.setCell w ⟨a, 0, none⟩ x0) ⟨a, 1, none⟩ x1) ⟨a, 2, none⟩ x2) ⟨a, 3, none⟩ x3) ⟨b, 0, none⟩ y0) ⟨b, 1, none⟩ y1) ⟨b, 2, none⟩ y2) ⟨b, 3, none⟩ y3 = W) :
    W.heap[a]? = some (.cells #[x0, x1, x2, x3] T (0, 0)) := by
  rw [← hW, Below.heap_setCell _ _ _ _ hab, Below.heap_setCell _ _ _ _ hab, Below.heap_setCell _ _ _ _ hab, Below.heap_setCell _ _ _ _ hab]
  exact (heap_setCell_blk (heap_setCell_blk (heap_setCell_blk (heap_setCell_blk h 0 _) 1 _) 2 _) 3 _).trans (by simp)
theorem st8_2 {w W : World} {a b : Nat} {c0 c1 c2 c3 x0 x1 x2 x3 y0 y1 y2 y3 : Value} {T : TypeId} (h : w.heap[b]? = some (.cells #[c0, c1, c2, c3] T (0, 0))) (hab : b ≠ a)
    (hW : World.setCell (World.setCell (World.setCell (World.setCell (World.setCell (World.setCell (World.setCell (World.setCell w ⟨a, 0, none⟩ x0) ⟨a, 1, none⟩ x1) ⟨a, 2, none⟩ x2) ⟨a, 3, none⟩ x3) ⟨b, 0, none⟩ y0) ⟨b, 1, none⟩ y1) ⟨b, 2, none⟩ y2) ⟨b, 3, none⟩ y3 = W) :
    W.heap[b]? = some (.cells #[y0, y1, y2, y3] T (0, 0)) := by
  rw [← hW]
  have h0 := (Below.heap_setCell w ⟨a, 0, none⟩ x0 b hab).trans h
  have h1 := (Below.heap_setCell _ ⟨a, 1, none⟩ x1 b hab).trans h0
  have h2 := (Below.heap_setCell _ ⟨a, 2, none⟩ x2 b hab).trans h1
  have h3 := (Below.heap_setCell _ ⟨a, 3, none⟩ x3 b hab).trans h2
  exact (heap_setCell_blk (heap_setCell_blk (heap_setCell_blk (heap_setCell_blk h3 0 _) 1 _) 2 _) 3 _).trans (by simp)
theorem st8_new {w0 w : World} {a b : Nat} {x0 x1 x2 x3 y0 y1 y2 y3 : Value} (h : New w0 w) (ha : w0.heap.size ≤ a) (hb : w0.heap.size ≤ b) :
    New w0 (World.setCell (World.setCell (World.setCell (World.setCell (World.setCell (World.setCell (World.setCell (World.setCell w ⟨a, 0, none⟩ x0) ⟨a, 1, none⟩ x1) ⟨a, 2, none⟩ x2) ⟨a, 3, none⟩ x3) ⟨b, 0, none⟩ y0) ⟨b, 1, none⟩ y1) ⟨b, 2, none⟩ y2) ⟨b, 3, none⟩ y3) := by
  exact ((((((((h.set ha 0 x0).set ha 1 x1).set ha 2 x2).set ha 3 x3).set hb 0 y0).set hb 1 y1).set hb 2 y2).set hb 3 y3)

theorem mirror_any (st cl pe pc state own : Int) (w : World) :
    Calls Try.prog 57 #[.agg #[.int .i64 st, .int .u64 cl, .int .u64 pe, .int .u64 pc], .int .i64 state, .int .u64 own] w fun e w' => e = .returned (.agg #[.int .i64 state, .int .u64 pc, .int .u64 own, .int .u64 cl]) ∧ New w w' := by
  go_enter Try.func57, Try.ntmps57
  go_wp2_with fail
  go_returns
  exact ⟨rfl, New.of_below (by go_grown)⟩

theorem init_any (cl pc : Int) (w : World) :
    Calls Try.prog 20 #[.int .u64 cl, .int .u64 pc] w fun e w' => e = .returned (.agg #[.int .i64 1, .int .u64 cl, .int .u64 0, .int .u64 pc]) ∧ New w w' := by
  go_enter Try.func20, Try.ntmps20
  go_wp2_with fail
  go_returns
  exact ⟨rfl, New.of_below (by go_grown)⟩

theorem try_any (cl pc pe : Int) (w : World) :
    Calls Try.prog 21 #[.int .u64 cl, .int .u64 pc, .int .u64 pe] w fun e w' => e = .returned (.tuple #[.agg #[.int .i64 2, .int .u64 cl, .int .u64 pe, .int .u64 pc], .agg #[.int .i64 1, .int .u64 pc, .int .u64 0, .int .u64 cl]]) ∧ New w w' := by
  go_enter Try.func21, Try.ntmps21
  go_wp2
  go_returns
  exact ⟨rfl, New.of_below (by go_grown)⟩

set_option maxHeartbeats 2000000 in
theorem ack_ok (own cl pe pc peer : Int) (w : World) :
    Calls Try.prog 22 #[.int .u64 own, .agg #[.int .i64 1, .int .u64 cl, .int .u64 pe, .int .u64 pc], .int .u64 peer] w fun e w' => e = .returned (.tuple #[.agg #[.int .i64 3, .int .u64 cl, .int .u64 peer, .int .u64 pc], .agg #[.int .i64 2, .int .u64 pc, .int .u64 own, .int .u64 cl], .int .i64 0]) ∧ New w w' := by
  go_enter Try.func22, Try.ntmps22
  go_wp2
  generalize hW : ((w.alloc _).alloc _).alloc _ = W
  have hs : W.heap.size = w.heap.size + 3 := by rw [← hW]; simp
  have hk : New w W := by rw [← hW]; exact New.of_below (by go_grown)
  have b0 : W.heap[w.heap.size]? = some (.cells #[.int .i64 1, .int .u64 cl, .int .u64 pe, .int .u64 pc] 36 (0, 0)) := by rw [← hW]; exact blk3_0 _ _ _ _
  have b1 : W.heap[w.heap.size + 1]? = some (.cells #[.int .i64 0, .int .u64 0, .int .u64 0, .int .u64 0] 36 (0, 0)) := by rw [← hW]; exact blk3_1 _ _ _ _
  have b2 : W.heap[w.heap.size + 2]? = some (.cells #[.int .i64 0, .int .u64 0, .int .u64 0, .int .u64 0] 36 (0, 0)) := by rw [← hW]; exact blk3_2 _ _ _ _
  have e1 : w.heap.size + 1 + 1 = w.heap.size + 2 := rfl
  rw [e1]
  clear hW e1
  have d0 := cells4 b0
  have hB : w.heap.size ≤ w.heap.size := Nat.le_refl _
  revert hB
  generalize hBB : w.heap.size = B at *
  intro hB0
  have hB : w.heap.size ≤ B := by omega
  clear hBB hB0
  go_region_with (go_at_call 57; refine (mirror_any 1 cl pe pc 2 own _).mono ?_; rintro e w1 ⟨rfl, k0⟩; have k1 := k0.undrew; clear k0; have d1 := cells4 (k1.kept b1 (fun h => h)); have d2 := cells4 (k1.kept b2 (fun h => h)); have d0' := cells4 (k1.kept b0 (fun h => h)))
  all_goals (
    generalize hW2 : World.setCell (World.setCell (World.setCell (World.setCell (World.setCell (World.setCell (World.setCell (World.setCell w1 _ _) _ _) _ _) _ _) _ _) _ _) _ _) _ _ = W2
    have k2 : New w W2 := by
      rw [← hW2]
      have k3 := hk.then k1 (fun _ h => h.elim)
      exact st8_new k3 (by omega) (by omega)
    have q1 := st8_1 (k1.kept b1 (fun h => h)) (by omega) hW2
    have q2 := st8_2 (k1.kept b2 (fun h => h)) (by omega) hW2
    have g1 := cells4 q1
    clear hW2 d0 d1 d2 d0' b0 b1 b2 hk k1 hs
    go_wp2
    generalize hW3 : World.setCell (World.setCell W2 _ _) _ _ = W3
    have k3 : New w W3 := by rw [← hW3]; exact (k2.set (by omega) 0 _).set (by omega) 2 _
    have p1 : W3.heap[B + 1]? = some (.cells #[.int .i64 3, .int .u64 cl, .int .u64 peer, .int .u64 pc] 36 (0, 0)) := by
      rw [← hW3]; exact (heap_setCell_blk (heap_setCell_blk q1 0 _) 2 _).trans (by simp)
    have p2 : W3.heap[B + 2]? = some (.cells #[.int .i64 2, .int .u64 pc, .int .u64 own, .int .u64 cl] 36 (0, 0)) := by
      rw [← hW3, Below.heap_setCell _ _ _ _ (by simp), Below.heap_setCell _ _ _ _ (by simp)]; exact q2
    have c1 := cells4 p1
    have c2 := cells4 p2
    clear hW3 q1 q2 p1 p2 g1
    exact bodyPost_ret (v := .tuple #[.agg #[.int .i64 3, .int .u64 cl, .int .u64 peer, .int .u64 pc], .agg #[.int .i64 2, .int .u64 pc, .int .u64 own, .int .u64 cl], .int .i64 0]) (by simp [results, Try.results22, go_sem, c1, c2]) rfl ⟨rfl, k3⟩)

theorem ack_no (own st cl pe pc peer : Int) (hst : (st == 1) = false) (w : World) :
    Calls Try.prog 22 #[.int .u64 own, .agg #[.int .i64 st, .int .u64 cl, .int .u64 pe, .int .u64 pc], .int .u64 peer] w fun e w' => e = .returned (.tuple #[.agg #[.int .i64 0, .int .u64 0, .int .u64 0, .int .u64 0], .agg #[.int .i64 0, .int .u64 0, .int .u64 0, .int .u64 0], .int .i64 170]) ∧ New w w' := by
  have hst2 : (st != 1) = true := by simp [bne, hst]
  go_enter Try.func22, Try.ntmps22
  go_wp2
  go_returns
  exact ⟨rfl, New.of_below (by go_grown)⟩

set_option maxHeartbeats 2000000 in
theorem confirm_ok (own cl pe pc : Int) (w : World) :
    Calls Try.prog 23 #[.int .u64 own, .agg #[.int .i64 2, .int .u64 cl, .int .u64 pe, .int .u64 pc]] w fun e w' => e = .returned (.tuple #[.agg #[.int .i64 3, .int .u64 cl, .int .u64 pe, .int .u64 pc], .agg #[.int .i64 3, .int .u64 pc, .int .u64 own, .int .u64 cl], .int .i64 0]) ∧ New w w' := by
  go_enter Try.func23, Try.ntmps23
  go_wp2
  generalize hW : ((w.alloc _).alloc _).alloc _ = W
  have hs : W.heap.size = w.heap.size + 3 := by rw [← hW]; simp
  have hk : New w W := by rw [← hW]; exact New.of_below (by go_grown)
  have b0 : W.heap[w.heap.size]? = some (.cells #[.int .i64 2, .int .u64 cl, .int .u64 pe, .int .u64 pc] 36 (0, 0)) := by rw [← hW]; exact blk3_0 _ _ _ _
  have b1 : W.heap[w.heap.size + 1]? = some (.cells #[.int .i64 0, .int .u64 0, .int .u64 0, .int .u64 0] 36 (0, 0)) := by rw [← hW]; exact blk3_1 _ _ _ _
  have b2 : W.heap[w.heap.size + 2]? = some (.cells #[.int .i64 0, .int .u64 0, .int .u64 0, .int .u64 0] 36 (0, 0)) := by rw [← hW]; exact blk3_2 _ _ _ _
  have e1 : w.heap.size + 1 + 1 = w.heap.size + 2 := rfl
  rw [e1]
  clear hW e1
  have d0 := cells4 b0
  have hB : w.heap.size ≤ w.heap.size := Nat.le_refl _
  revert hB
  generalize hBB : w.heap.size = B at *
  intro hB0
  have hB : w.heap.size ≤ B := by omega
  clear hBB hB0
  go_region_with (go_at_call 57; refine (mirror_any 2 cl pe pc 3 own _).mono ?_; rintro e w1 ⟨rfl, k0⟩; have k1 := k0.undrew; clear k0; have d1 := cells4 (k1.kept b1 (fun h => h)); have d2 := cells4 (k1.kept b2 (fun h => h)); have d0' := cells4 (k1.kept b0 (fun h => h)))
  all_goals (
    generalize hW2 : World.setCell (World.setCell (World.setCell (World.setCell (World.setCell (World.setCell (World.setCell (World.setCell w1 _ _) _ _) _ _) _ _) _ _) _ _) _ _) _ _ = W2
    have k2 : New w W2 := by
      rw [← hW2]
      have k3 := hk.then k1 (fun _ h => h.elim)
      exact st8_new k3 (by omega) (by omega)
    have q1 := st8_1 (k1.kept b1 (fun h => h)) (by omega) hW2
    have q2 := st8_2 (k1.kept b2 (fun h => h)) (by omega) hW2
    have g1 := cells4 q1
    clear hW2 d0 d1 d2 d0' b0 b1 b2 hk k1 hs
    go_wp2
    generalize hW3 : World.setCell W2 _ _ = W3
    have k3 : New w W3 := by rw [← hW3]; exact k2.set (by omega) 0 _
    have p1 : W3.heap[B + 1]? = some (.cells #[.int .i64 3, .int .u64 cl, .int .u64 pe, .int .u64 pc] 36 (0, 0)) := by
      rw [← hW3]; exact (heap_setCell_blk q1 0 _).trans (by simp)
    have p2 : W3.heap[B + 2]? = some (.cells #[.int .i64 3, .int .u64 pc, .int .u64 own, .int .u64 cl] 36 (0, 0)) := by
      rw [← hW3, Below.heap_setCell _ _ _ _ (by simp)]; exact q2
    have c1 := cells4 p1
    have c2 := cells4 p2
    clear hW3 q1 q2 p1 p2 g1
    exact bodyPost_ret (v := .tuple #[.agg #[.int .i64 3, .int .u64 cl, .int .u64 pe, .int .u64 pc], .agg #[.int .i64 3, .int .u64 pc, .int .u64 own, .int .u64 cl], .int .i64 0]) (by simp [results, Try.results23, go_sem, c1, c2]) rfl ⟨rfl, k3⟩)

theorem confirm_no (own st cl pe pc : Int) (hst : (st == 2) = false) (w : World) :
    Calls Try.prog 23 #[.int .u64 own, .agg #[.int .i64 st, .int .u64 cl, .int .u64 pe, .int .u64 pc]] w fun e w' => e = .returned (.tuple #[.agg #[.int .i64 0, .int .u64 0, .int .u64 0, .int .u64 0], .agg #[.int .i64 0, .int .u64 0, .int .u64 0, .int .u64 0], .int .i64 170]) ∧ New w w' := by
  have hst2 : (st != 2) = true := by simp [bne, hst]
  go_enter Try.func23, Try.ntmps23
  go_wp2
  go_returns
  exact ⟨rfl, New.of_below (by go_grown)⟩
end Go.Proofs.Ytclldibadmnppaa
