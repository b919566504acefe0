/-
  voussoirlaw17.LinkMirrors: the walk: for any four numbers the law returns true.
-/
import Derived.Test.YtclldibadmnppaaLnk2
namespace Go.Proofs.Ytclldibadmnppaa
open Go.RowKit

set_option maxHeartbeats 4000000 in
theorem mirrors_walk (cl pc own peer : Int) (w : World) : Calls Try.prog 4 #[.int .u64 cl, .int .u64 pc, .int .u64 own, .int .u64 peer] w fun e w' => e = .returned (.bool true) ∧ New w w' := by
  go_enter Try.func4, Try.ntmps4
  go_wp2_with fail
  refine (awake17_any w).mono ?_
  rintro e W0 ⟨rfl, n0⟩
  go_wp2_with fail
  refine (init_any cl pc W0).mono ?_
  rintro e w1 ⟨rfl, k1⟩
  have A1 := All.nil (T := 36) w1
  have B1 := (A1.alloc #[.int .i64 1, .int .u64 cl, .int .u64 0, .int .u64 pc])
  have n1 : New w (w1.alloc (.cells #[.int .i64 1, .int .u64 cl, .int .u64 0, .int .u64 pc] 36)) := ((n0.then k1 (fun _ h => .inl h)).alloc _)
  go_wp2_with fail
  generalize hW1 : (w1.alloc (.cells #[.int .i64 1, .int .u64 cl, .int .u64 0, .int .u64 pc] 36)) = W1 at *
  clear hW1
  try simp only [World.size_alloc] at B1
  generalize w1.heap.size = b1 at *
  clear A1 k1 n0
  refine (try_any cl pc peer W1).mono ?_
  rintro e w2 ⟨rfl, k2⟩
  have A2 := B1.keep k2
  have c2_0 := A2.cells (.head _)
  have l2_0 := A2.lt (.head _)
  have B2 := ((A2.alloc #[.int .i64 2, .int .u64 cl, .int .u64 peer, .int .u64 pc]).alloc #[.int .i64 1, .int .u64 pc, .int .u64 0, .int .u64 cl])
  have n2 : New w ((w2.alloc (.cells #[.int .i64 2, .int .u64 cl, .int .u64 peer, .int .u64 pc] 36)).alloc (.cells #[.int .i64 1, .int .u64 pc, .int .u64 0, .int .u64 cl] 36)) := (((n1.then k2 (fun _ h => .inl h)).alloc _).alloc _)
  go_wp2_with fail
  generalize hW2 : ((w2.alloc (.cells #[.int .i64 2, .int .u64 cl, .int .u64 peer, .int .u64 pc] 36)).alloc (.cells #[.int .i64 1, .int .u64 pc, .int .u64 0, .int .u64 cl] 36)) = W2 at *
  clear hW2
  try simp only [World.size_alloc] at B2
  generalize w2.heap.size = b2 at *
  clear A2 k2 c2_0 l2_0 n1 B1
  refine (ack_ok own cl 0 pc peer W2).mono ?_
  rintro e w3 ⟨rfl, k3⟩
  have A3 := B2.keep k3
  have c3_0 := A3.cells (.tail _ (.head _))
  have l3_0 := A3.lt (.tail _ (.head _))
  have B3 := ((A3.alloc #[.int .i64 3, .int .u64 cl, .int .u64 peer, .int .u64 pc]).alloc #[.int .i64 2, .int .u64 pc, .int .u64 own, .int .u64 cl])
  have n3 : New w ((w3.alloc (.cells #[.int .i64 3, .int .u64 cl, .int .u64 peer, .int .u64 pc] 36)).alloc (.cells #[.int .i64 2, .int .u64 pc, .int .u64 own, .int .u64 cl] 36)) := (((n2.then k3 (fun _ h => .inl h)).alloc _).alloc _)
  go_wp2_with fail
  generalize hW3 : ((w3.alloc (.cells #[.int .i64 3, .int .u64 cl, .int .u64 peer, .int .u64 pc] 36)).alloc (.cells #[.int .i64 2, .int .u64 pc, .int .u64 own, .int .u64 cl] 36)) = W3 at *
  clear hW3
  try simp only [World.size_alloc] at B3
  generalize w3.heap.size = b3 at *
  clear A3 k3 c3_0 l3_0 n2 B2
  refine (confirm_ok own cl peer pc W3).mono ?_
  rintro e w4 ⟨rfl, k4⟩
  have A4 := B3.keep k4
  have c4_0 := A4.cells (.tail _ (.tail _ (.tail _ (.tail _ (.head _)))))
  have l4_0 := A4.lt (.tail _ (.tail _ (.tail _ (.tail _ (.head _)))))
  have c4_1 := A4.cells (.tail _ (.tail _ (.tail _ (.head _))))
  have l4_1 := A4.lt (.tail _ (.tail _ (.tail _ (.head _))))
  have c4_2 := A4.cells (.tail _ (.tail _ (.head _)))
  have l4_2 := A4.lt (.tail _ (.tail _ (.head _)))
  have m4_2 := Nat.lt_of_succ_lt l4_2
  have c4_3 := A4.cells (.tail _ (.head _))
  have l4_3 := A4.lt (.tail _ (.head _))
  have c4_4 := A4.cells (.head _)
  have l4_4 := A4.lt (.head _)
  have m4_4 := Nat.lt_of_succ_lt l4_4
  have n4 := n3.then k4 (fun _ h => .inl h)
  clear A4 B3 n3 k4
  go_wp2_with fail
  go_ret
  exact ⟨rfl, (n4.alloc _).alloc _⟩
end Go.Proofs.Ytclldibadmnppaa
