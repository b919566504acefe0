/-
  WALKS: voussoirlaw17.awake.
-/
import Derived.Test.YtclldibadmnppaaLnk1
namespace Go.Proofs.Ytclldibadmnppaa
open Go.RowKit

/-- these blocks hold these cells -/
def All (T : TypeId) (w : World) (L : List (Nat × Array Value)) : Prop := ∀ p, p ∈ L → w.heap[p.1]? = some (.cells p.2 T (0, 0))
theorem All.nil {T : TypeId} (w : World) : All T w [] := fun _ h => by cases h
theorem All.keep {T : TypeId} {w w' : World} {L : List (Nat × Array Value)} (h : All T w L) (k : New w w') : All T w' L := fun p hp => k.kept (h p hp) (fun h => h)
theorem All.alloc {T : TypeId} {w : World} {L : List (Nat × Array Value)} (h : All T w L) (c : Array Value) : All T (w.alloc (.cells c T)) ((w.heap.size, c) :: L) := by
  intro p hp
  cases hp with
  | head => exact heap_alloc_new w _
  | tail _ hp =>
    have hl := (Array.getElem?_eq_some_iff.1 (h p hp)).1
    exact (heap_alloc_old w _ hl).trans (h p hp)
theorem All.lt {T : TypeId} {w : World} {L : List (Nat × Array Value)} (h : All T w L) {b : Nat} {c : Array Value} (hp : (b, c) ∈ L) : b < w.heap.size := (Array.getElem?_eq_some_iff.1 (h _ hp)).1
theorem All.cells {T : TypeId} {w : World} {L : List (Nat × Array Value)} (h : All T w L) {b : Nat} {c0 c1 c2 c3 : Value} (hp : (b, #[c0, c1, c2, c3]) ∈ L) :
    (w.cell? ⟨b, 0, none⟩ = some c0 ∧ w.cell? ⟨b, 1, none⟩ = some c1 ∧ w.cell? ⟨b, 2, none⟩ = some c2 ∧ w.cell? ⟨b, 3, none⟩ = some c3) ∧
    w.frozen? ⟨b, 0, none⟩ = false ∧ w.frozen? ⟨b, 1, none⟩ = false ∧ w.frozen? ⟨b, 2, none⟩ = false ∧ w.frozen? ⟨b, 3, none⟩ = false := cells4 (h _ hp)

set_option maxHeartbeats 2000000 in
theorem awake17_any (w : World) : Calls Try.prog 18 #[] w fun e w' => e = .returned (.bool true) ∧ New w w' := by
  go_enter Try.func18, Try.ntmps18
  go_wp2_with fail
  refine (init_any 1 2 w).mono ?_
  rintro e w1 ⟨rfl, k1⟩
  have A1 := All.nil (T := 36) w1
  have B1 := (A1.alloc #[.int .i64 1, .int .u64 1, .int .u64 0, .int .u64 2])
  have n1 : New w (w1.alloc (.cells #[.int .i64 1, .int .u64 1, .int .u64 0, .int .u64 2] 36)) := (k1.alloc _)
  go_wp2_with fail
  generalize hW1 : (w1.alloc (.cells #[.int .i64 1, .int .u64 1, .int .u64 0, .int .u64 2] 36)) = W1 at *
  clear hW1
  try simp only [World.size_alloc] at B1
  generalize w1.heap.size = b1 at *
  clear A1 k1
  refine (try_any 2 1 0 W1).mono ?_
  rintro e w2 ⟨rfl, k2⟩
  have A2 := B1.keep k2
  have c2_0 := A2.cells (.head _)
  have l2_0 := A2.lt (.head _)
  have B2 := ((A2.alloc #[.int .i64 2, .int .u64 2, .int .u64 0, .int .u64 1]).alloc #[.int .i64 1, .int .u64 1, .int .u64 0, .int .u64 2])
  have n2 : New w ((w2.alloc (.cells #[.int .i64 2, .int .u64 2, .int .u64 0, .int .u64 1] 36)).alloc (.cells #[.int .i64 1, .int .u64 1, .int .u64 0, .int .u64 2] 36)) := (((n1.then k2 (fun _ h => .inl h)).alloc _).alloc _)
  go_wp2_with fail
  generalize hW2 : ((w2.alloc (.cells #[.int .i64 2, .int .u64 2, .int .u64 0, .int .u64 1] 36)).alloc (.cells #[.int .i64 1, .int .u64 1, .int .u64 0, .int .u64 2] 36)) = W2 at *
  clear hW2
  try simp only [World.size_alloc] at B2
  generalize w2.heap.size = b2 at *
  clear A2 k2 c2_0 l2_0 n1 B1
  refine (ack_ok 0 1 0 2 5 W2).mono ?_
  rintro e w3 ⟨rfl, k3⟩
  have A3 := B2.keep k3
  have c3_0 := A3.cells (.tail _ (.head _))
  have l3_0 := A3.lt (.tail _ (.head _))
  have B3 := ((A3.alloc #[.int .i64 3, .int .u64 1, .int .u64 5, .int .u64 2]).alloc #[.int .i64 2, .int .u64 2, .int .u64 0, .int .u64 1])
  have n3 : New w ((w3.alloc (.cells #[.int .i64 3, .int .u64 1, .int .u64 5, .int .u64 2] 36)).alloc (.cells #[.int .i64 2, .int .u64 2, .int .u64 0, .int .u64 1] 36)) := (((n2.then k3 (fun _ h => .inl h)).alloc _).alloc _)
  go_wp2_with fail
  generalize hW3 : ((w3.alloc (.cells #[.int .i64 3, .int .u64 1, .int .u64 5, .int .u64 2] 36)).alloc (.cells #[.int .i64 2, .int .u64 2, .int .u64 0, .int .u64 1] 36)) = W3 at *
  clear hW3
  try simp only [World.size_alloc] at B3
  generalize w3.heap.size = b3 at *
  clear A3 k3 c3_0 l3_0 n2 B2
  refine (confirm_ok 5 2 0 1 W3).mono ?_
  rintro e w4 ⟨rfl, k4⟩
  have A4 := B3.keep k4
  have c4_0 := A4.cells (.tail _ (.tail _ (.tail _ (.tail _ (.head _)))))
  have l4_0 := A4.lt (.tail _ (.tail _ (.tail _ (.tail _ (.head _)))))
  have B4 := ((A4.alloc #[.int .i64 3, .int .u64 2, .int .u64 0, .int .u64 1]).alloc #[.int .i64 3, .int .u64 1, .int .u64 5, .int .u64 2])
  have n4 : New w ((w4.alloc (.cells #[.int .i64 3, .int .u64 2, .int .u64 0, .int .u64 1] 36)).alloc (.cells #[.int .i64 3, .int .u64 1, .int .u64 5, .int .u64 2] 36)) := (((n3.then k4 (fun _ h => .inl h)).alloc _).alloc _)
  go_wp2_with fail
  generalize hW4 : ((w4.alloc (.cells #[.int .i64 3, .int .u64 2, .int .u64 0, .int .u64 1] 36)).alloc (.cells #[.int .i64 3, .int .u64 1, .int .u64 5, .int .u64 2] 36)) = W4 at *
  clear hW4
  try simp only [World.size_alloc] at B4
  generalize w4.heap.size = b4 at *
  clear A4 k4 c4_0 l4_0 n3 B3
  refine (confirm_no 0 1 1 0 2 (by decide) W4).mono ?_
  rintro e w5 ⟨rfl, k5⟩
  have A5 := B4.keep k5
  have c5_0 := A5.cells (.tail _ (.tail _ (.tail _ (.tail _ (.tail _ (.tail _ (.head _)))))))
  have l5_0 := A5.lt (.tail _ (.tail _ (.tail _ (.tail _ (.tail _ (.tail _ (.head _)))))))
  have c5_1 := A5.cells (.tail _ (.tail _ (.tail _ (.tail _ (.head _)))))
  have l5_1 := A5.lt (.tail _ (.tail _ (.tail _ (.tail _ (.head _)))))
  have m5_1 := Nat.lt_of_succ_lt l5_1
  have c5_2 := A5.cells (.tail _ (.tail _ (.tail _ (.head _))))
  have l5_2 := A5.lt (.tail _ (.tail _ (.tail _ (.head _))))
  have c5_3 := A5.cells (.tail _ (.tail _ (.head _)))
  have l5_3 := A5.lt (.tail _ (.tail _ (.head _)))
  have m5_3 := Nat.lt_of_succ_lt l5_3
  have c5_4 := A5.cells (.tail _ (.head _))
  have l5_4 := A5.lt (.tail _ (.head _))
  have c5_5 := A5.cells (.head _)
  have l5_5 := A5.lt (.head _)
  have m5_5 := Nat.lt_of_succ_lt l5_5
  have n5 := n4.then k5 (fun _ h => .inl h)
  clear A5 B4 n4 k5
  go_wp2_with fail
  go_ret
  exact ⟨rfl, (n5.alloc _).alloc _⟩
end Go.Proofs.Ytclldibadmnppaa
