/-
  WALKS: voussoirref17's Ack, Confirm where they go through; voussoirlaw17's pick.
-/
import Derived.Test.YtclldibadmnppaaLnk5
import Derived.Test.YtclldibadmnppaaCod6
namespace Go.Proofs.Ytclldibadmnppaa
open Go.RowKit
set_option maxHeartbeats 2000000 in
theorem ack2_ok (own cl pe pc peer : Int) (w : World) :
    Calls Try.prog 51 #[.int .u64 own, .agg #[.int .i64 1, .int .u64 cl, .int .u64 pe, .int .u64 pc], .int .u64 peer] w fun e w' => e = .returned (.tuple #[.agg #[.int .i64 3, .int .u64 cl, .int .u64 peer, .int .u64 pc], .agg #[.int .i64 2, .int .u64 pc, .int .u64 own, .int .u64 cl], .int .i64 0]) ∧ New w w' := by
  go_enter Try.func51, Try.ntmps51
  go_wp2
  generalize hW : ((w.alloc _).alloc _).alloc _ = W
  have hk : New w W := by rw [← hW]; exact New.of_below (by go_grown)
  have b0 : W.heap[w.heap.size]? = some (.cells #[.int .i64 1, .int .u64 cl, .int .u64 pe, .int .u64 pc] 36 (0, 0)) := by rw [← hW]; exact blk3_0 _ _ _ _
  have b1 : W.heap[w.heap.size + 1]? = some (.cells #[.int .i64 0, .int .u64 0, .int .u64 0, .int .u64 0] 36 (0, 0)) := by rw [← hW]; exact blk3_1 _ _ _ _
  have b2 : W.heap[w.heap.size + 2]? = some (.cells #[.int .i64 0, .int .u64 0, .int .u64 0, .int .u64 0] 36 (0, 0)) := by rw [← hW]; exact blk3_2 _ _ _ _
  have e1 : w.heap.size + 1 + 1 = w.heap.size + 2 := rfl
  rw [e1]
  clear hW e1
  generalize hB : w.heap.size = B at *
  have d0 := cells4 b0
  have d1 := cells4 b1
  have d2 := cells4 b2
  go_region
  all_goals (
    generalize hW2 : World.setCell (World.setCell (World.setCell (World.setCell (World.setCell (World.setCell (World.setCell (World.setCell _ _ _) _ _) _ _) _ _) _ _) _ _) _ _) _ _ = W2
    have k2 : New w W2 := by
      rw [← hW2]
      exact st8_new (by first | exact hk | exact hk.drewN _ | exact hk.undrew) (by omega) (by omega)
    have q1 := cells4 (st8_1 (by first | exact b1) (by omega) hW2)
    have q2 := cells4 (st8_2 (by first | exact b2) (by omega) hW2)
    clear hW2 d0 d1 d2 b0 b1 b2 hk
    go_wp2
    exact bodyPost_ret (v := .tuple #[.agg #[.int .i64 3, .int .u64 cl, .int .u64 peer, .int .u64 pc], .agg #[.int .i64 2, .int .u64 pc, .int .u64 own, .int .u64 cl], .int .i64 0]) (by simp [results, Try.results51, go_sem, q1, q2]) rfl ⟨rfl, k2.drew⟩)
set_option maxHeartbeats 2000000 in
theorem confirm2_ok (own cl pe pc : Int) (w : World) :
    Calls Try.prog 52 #[.int .u64 own, .agg #[.int .i64 2, .int .u64 cl, .int .u64 pe, .int .u64 pc]] w fun e w' => e = .returned (.tuple #[.agg #[.int .i64 3, .int .u64 cl, .int .u64 pe, .int .u64 pc], .agg #[.int .i64 3, .int .u64 pc, .int .u64 own, .int .u64 cl], .int .i64 0]) ∧ New w w' := by
  go_enter Try.func52, Try.ntmps52
  go_wp2
  generalize hW : ((w.alloc _).alloc _).alloc _ = W
  have hk : New w W := by rw [← hW]; exact New.of_below (by go_grown)
  have b0 : W.heap[w.heap.size]? = some (.cells #[.int .i64 2, .int .u64 cl, .int .u64 pe, .int .u64 pc] 36 (0, 0)) := by rw [← hW]; exact blk3_0 _ _ _ _
  have b1 : W.heap[w.heap.size + 1]? = some (.cells #[.int .i64 0, .int .u64 0, .int .u64 0, .int .u64 0] 36 (0, 0)) := by rw [← hW]; exact blk3_1 _ _ _ _
  have b2 : W.heap[w.heap.size + 2]? = some (.cells #[.int .i64 0, .int .u64 0, .int .u64 0, .int .u64 0] 36 (0, 0)) := by rw [← hW]; exact blk3_2 _ _ _ _
  have e1 : w.heap.size + 1 + 1 = w.heap.size + 2 := rfl
  rw [e1]
  clear hW e1
  generalize hB : w.heap.size = B at *
  have d0 := cells4 b0
  have d1 := cells4 b1
  have d2 := cells4 b2
  go_region
  all_goals (
    generalize hW2 : World.setCell (World.setCell (World.setCell (World.setCell (World.setCell (World.setCell (World.setCell (World.setCell _ _ _) _ _) _ _) _ _) _ _) _ _) _ _) _ _ = W2
    have k2 : New w W2 := by
      rw [← hW2]
      exact st8_new (by first | exact hk | exact hk.drewN _ | exact hk.undrew) (by omega) (by omega)
    have q1 := cells4 (st8_1 (by first | exact b1) (by omega) hW2)
    have q2 := cells4 (st8_2 (by first | exact b2) (by omega) hW2)
    clear hW2 d0 d1 d2 b0 b1 b2 hk
    go_wp2
    exact bodyPost_ret (v := .tuple #[.agg #[.int .i64 3, .int .u64 cl, .int .u64 pe, .int .u64 pc], .agg #[.int .i64 3, .int .u64 pc, .int .u64 own, .int .u64 cl], .int .i64 0]) (by simp [results, Try.results52, go_sem, q1, q2]) rfl ⟨rfl, k2.drew⟩)

theorem pick17_any (c : Int) (n : Nat) (w : World) (hc : I64 c) (hn : 0 < n) (hn2 : n ≤ 4611686018427387904) :
    Calls Try.prog 54 #[.int .i64 c, .int .i64 n] w fun e w' => e = .returned (.int .i64 (pk c n)) ∧ w = w' := by
  obtain ⟨hlo, hhi⟩ := hc
  by_cases h : c < 0
  · go_enter Try.func54, Try.ntmps54
    go_wp2
    go_ret
    refine ⟨ret_int ?_, rfl⟩
    rw [← Int.neg_tmod, Int.tmod_eq_emod_of_nonneg (by omega)]
    unfold pk
    rw [if_pos h, Int.toNat_of_nonneg (Int.emod_nonneg _ (by omega))]
  · go_enter Try.func54, Try.ntmps54
    go_wp2
    go_ret
    refine ⟨ret_int ?_, rfl⟩
    unfold pk
    rw [if_neg (by omega), Int.toNat_of_nonneg (Int.emod_nonneg _ (by omega))]

end Go.Proofs.Ytclldibadmnppaa
