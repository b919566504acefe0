/-
  voussoirlaw17.LinkTells: link and the document's own answer side by side; the walk: for any end, bytes and numbers the law returns true.
-/
import Derived.Test.YtclldibadmnppaaLnk2
import Derived.Test.YtclldibadmnppaaLnk7
namespace Go.Proofs.Ytclldibadmnppaa
open Go.RowKit

theorem okL_nat {st : Int} {pe : Nat} (h : okL st pe = true) : ∃ n : Nat, st = (n : Int) ∧ n ≤ 3 := by
  unfold okL at h
  split at h
  · exact ⟨1, by omega, by omega⟩
  · simp at h
    rcases h with h | h
    · exact ⟨2, by omega, by omega⟩
    · exact ⟨3, by omega, by omega⟩

theorem lay_both (st : Int) (cl pe pc : Nat) (h1 : U64 cl) (h2 : U64 pe) (h3 : U64 pc) : ∃ (x : ByteArray) (y : Int),
    (∀ w, Calls Try.prog 46 #[.agg #[.int .i64 st, .int .u64 cl, .int .u64 pe, .int .u64 pc]] w fun e w' => e = .returned (.tuple #[.string x, .int .i64 y]) ∧ New w w') ∧
    (∀ w, Calls Try.prog 47 #[.agg #[.int .i64 st, .int .u64 cl, .int .u64 pe, .int .u64 pc]] w fun e w' => e = .returned (.tuple #[.string x, .int .i64 y]) ∧ New w w') := by
  rcases h : okL st pe with _ | _
  · exact ⟨_, _, lay_no st cl pe pc h, lay2_no st cl pe pc h⟩
  · obtain ⟨n, rfl, hn⟩ := okL_nat h
    exact ⟨_, _, lay_ok n cl pe pc hn h, lay2_ok n cl pe pc hn h h1 h2 h3⟩

theorem take_both (s : ByteArray) : ∃ (a0 a1 a2 a3 y : Int),
    (∀ w, Calls Try.prog 48 #[.string s] w fun e w' => e = .returned (.tuple #[.agg #[.int .i64 a0, .int .u64 a1, .int .u64 a2, .int .u64 a3], .int .i64 y]) ∧ New w w') ∧
    (∀ w, Calls Try.prog 49 #[.string s] w fun e w' => e = .returned (.tuple #[.agg #[.int .i64 a0, .int .u64 a1, .int .u64 a2, .int .u64 a3], .int .i64 y]) ∧ New w w') := by
  have H1 := take_any (s.data.toList, false) rfl
  have H2 := take2_any (s.data.toList, false) rfl
  simp only [← str_mk] at H1 H2
  unfold outT at H1 H2
  split at H1
  · exact ⟨_, _, _, _, _, H1, by rename_i h; rw [if_pos h] at H2; exact H2⟩
  · exact ⟨_, _, _, _, _, H1, by rename_i h; rw [if_neg h] at H2; exact H2⟩

theorem ack_both (own st cl pe pc peer : Int) : ∃ (a0 a1 a2 a3 b0 b1 b2 b3 y : Int),
    (∀ w, Calls Try.prog 22 #[.int .u64 own, .agg #[.int .i64 st, .int .u64 cl, .int .u64 pe, .int .u64 pc], .int .u64 peer] w fun e w' => e = .returned (.tuple #[.agg #[.int .i64 a0, .int .u64 a1, .int .u64 a2, .int .u64 a3], .agg #[.int .i64 b0, .int .u64 b1, .int .u64 b2, .int .u64 b3], .int .i64 y]) ∧ New w w') ∧
    (∀ w, Calls Try.prog 51 #[.int .u64 own, .agg #[.int .i64 st, .int .u64 cl, .int .u64 pe, .int .u64 pc], .int .u64 peer] w fun e w' => e = .returned (.tuple #[.agg #[.int .i64 a0, .int .u64 a1, .int .u64 a2, .int .u64 a3], .agg #[.int .i64 b0, .int .u64 b1, .int .u64 b2, .int .u64 b3], .int .i64 y]) ∧ New w w') := by
  rcases h : st == 1 with _ | _
  · exact ⟨_, _, _, _, _, _, _, _, _, ack_no own st cl pe pc peer h, ack2_no own st cl pe pc peer h⟩
  · obtain rfl : st = 1 := by simpa using h
    exact ⟨_, _, _, _, _, _, _, _, _, ack_ok own cl pe pc peer, ack2_ok own cl pe pc peer⟩

theorem confirm_both (own st cl pe pc : Int) : ∃ (a0 a1 a2 a3 b0 b1 b2 b3 y : Int),
    (∀ w, Calls Try.prog 23 #[.int .u64 own, .agg #[.int .i64 st, .int .u64 cl, .int .u64 pe, .int .u64 pc]] w fun e w' => e = .returned (.tuple #[.agg #[.int .i64 a0, .int .u64 a1, .int .u64 a2, .int .u64 a3], .agg #[.int .i64 b0, .int .u64 b1, .int .u64 b2, .int .u64 b3], .int .i64 y]) ∧ New w w') ∧
    (∀ w, Calls Try.prog 52 #[.int .u64 own, .agg #[.int .i64 st, .int .u64 cl, .int .u64 pe, .int .u64 pc]] w fun e w' => e = .returned (.tuple #[.agg #[.int .i64 a0, .int .u64 a1, .int .u64 a2, .int .u64 a3], .agg #[.int .i64 b0, .int .u64 b1, .int .u64 b2, .int .u64 b3], .int .i64 y]) ∧ New w w') := by
  rcases h : st == 2 with _ | _
  · exact ⟨_, _, _, _, _, _, _, _, _, confirm_no own st cl pe pc h, confirm2_no own st cl pe pc h⟩
  · obtain rfl : st = 2 := by simpa using h
    exact ⟨_, _, _, _, _, _, _, _, _, confirm_ok own cl pe pc, confirm2_ok own cl pe pc⟩

set_option maxHeartbeats 8000000 in
set_option maxRecDepth 100000 in
theorem tells_walk (st : Int) (cl pe pc : Nat) (s : ByteArray) (own peer client : Int) (h1 : U64 cl) (h2 : U64 pe) (h3 : U64 pc) (w : World) :
    Calls Try.prog 15 #[.agg #[.int .i64 st, .int .u64 cl, .int .u64 pe, .int .u64 pc], .string s, .int .u64 own, .int .u64 peer, .int .u64 client] w fun e w' => e = .returned (.bool true) ∧ New w w' := by
  obtain ⟨x, y, HL1, HL2⟩ := lay_both st cl pe pc h1 h2 h3
  obtain ⟨t0, t1, t2, t3, ty, HT1, HT2⟩ := take_both s
  obtain ⟨a0, a1, a2, a3, d0, d1, d2, d3, ay, HA1, HA2⟩ := ack_both own st cl pe pc peer
  obtain ⟨f0, f1, f2, f3, g0, g1, g2, g3, fy, HC1, HC2⟩ := confirm_both own st cl pe pc
  clear h1 h2 h3
  go_enter Try.func15, Try.ntmps15
  have B00 := (All.nil (T := 36) w).alloc #[.int .i64 st, .int .u64 cl, .int .u64 pe, .int .u64 pc]
  have n00 : New w (w.alloc (.cells #[.int .i64 st, .int .u64 cl, .int .u64 pe, .int .u64 pc] 36)) := (Keeps.refl _ w).alloc _
  go_wp2_with fail
  refine (awake17_any _).mono ?_
  rintro e W0 ⟨rfl, n0⟩
  have B0 := B00.keep n0
  have n0 := n00.then n0 (fun _ h => .inl h)
  clear B00 n00
  generalize w.heap.size = b0 at *
  have c0_0 := B0.cells (.head _)
  go_wp2_with fail
  clear c0_0
  -- l.Lay
  refine (HL1 W0).mono ?_
  rintro e w1 ⟨rfl, k1⟩
  have A1 := B0.keep k1
  have c1_0 := A1.cells (.head _)
  have l1_0 := A1.lt (.head _)
  have B1 := A1
  have n1 : New w w1 := (n0.then k1 (fun _ h => .inl h))
  go_wp2_with fail
  generalize hW1 : w1 = W1 at *
  clear hW1
  try simp only [World.size_alloc] at B1
  generalize w1.heap.size = b1 at *
  clear A1 k1 c1_0 l1_0 n0 B0
  refine (HL2 W1).mono ?_
  rintro e w2 ⟨rfl, k2⟩
  have A2 := B1.keep k2
  have B2 := A2
  have n2 : New w w2 := (n1.then k2 (fun _ h => .inl h))
  go_wp2_with fail
  generalize hW2 : w2 = W2 at *
  clear hW2
  try simp only [World.size_alloc] at B2
  generalize w2.heap.size = b2 at *
  clear A2 k2 n1 B1
  refine (HT1 W2).mono ?_
  rintro e w3 ⟨rfl, k3⟩
  have A3 := B2.keep k3
  have B3 := (A3.alloc #[.int .i64 t0, .int .u64 t1, .int .u64 t2, .int .u64 t3])
  have n3 : New w (w3.alloc (.cells #[.int .i64 t0, .int .u64 t1, .int .u64 t2, .int .u64 t3] 36)) := ((n2.then k3 (fun _ h => .inl h)).alloc _)
  go_wp2_with fail
  generalize hW3 : (w3.alloc (.cells #[.int .i64 t0, .int .u64 t1, .int .u64 t2, .int .u64 t3] 36)) = W3 at *
  clear hW3
  try simp only [World.size_alloc] at B3
  generalize w3.heap.size = b3 at *
  clear A3 k3 n2 B2
  refine (HT2 W3).mono ?_
  rintro e w4 ⟨rfl, k4⟩
  have A4 := B3.keep k4
  have B4 := (A4.alloc #[.int .i64 t0, .int .u64 t1, .int .u64 t2, .int .u64 t3])
  have n4 : New w (w4.alloc (.cells #[.int .i64 t0, .int .u64 t1, .int .u64 t2, .int .u64 t3] 36)) := ((n3.then k4 (fun _ h => .inl h)).alloc _)
  go_wp2_with fail
  generalize hW4 : (w4.alloc (.cells #[.int .i64 t0, .int .u64 t1, .int .u64 t2, .int .u64 t3] 36)) = W4 at *
  clear hW4
  try simp only [World.size_alloc] at B4
  generalize w4.heap.size = b4 at *
  clear A4 k4 n3 B3
  refine (try_any client own peer W4).mono ?_
  rintro e w5 ⟨rfl, k5⟩
  have A5 := B4.keep k5
  have B5 := ((A5.alloc #[.int .i64 2, .int .u64 client, .int .u64 peer, .int .u64 own]).alloc #[.int .i64 1, .int .u64 own, .int .u64 0, .int .u64 client])
  have n5 : New w ((w5.alloc (.cells #[.int .i64 2, .int .u64 client, .int .u64 peer, .int .u64 own] 36)).alloc (.cells #[.int .i64 1, .int .u64 own, .int .u64 0, .int .u64 client] 36)) := (((n4.then k5 (fun _ h => .inl h)).alloc _).alloc _)
  go_wp2_with fail
  generalize hW5 : ((w5.alloc (.cells #[.int .i64 2, .int .u64 client, .int .u64 peer, .int .u64 own] 36)).alloc (.cells #[.int .i64 1, .int .u64 own, .int .u64 0, .int .u64 client] 36)) = W5 at *
  clear hW5
  try simp only [World.size_alloc] at B5
  generalize w5.heap.size = b5 at *
  clear A5 k5 n4 B4
  refine (try2_any client own peer W5).mono ?_
  rintro e w6 ⟨rfl, k6⟩
  have A6 := B5.keep k6
  have c6_0 := A6.cells (.tail _ (.tail _ (.tail _ (.tail _ (.head _)))))
  have l6_0 := A6.lt (.tail _ (.tail _ (.tail _ (.tail _ (.head _)))))
  have B6 := ((A6.alloc #[.int .i64 2, .int .u64 client, .int .u64 peer, .int .u64 own]).alloc #[.int .i64 1, .int .u64 own, .int .u64 0, .int .u64 client])
  have n6 : New w ((w6.alloc (.cells #[.int .i64 2, .int .u64 client, .int .u64 peer, .int .u64 own] 36)).alloc (.cells #[.int .i64 1, .int .u64 own, .int .u64 0, .int .u64 client] 36)) := (((n5.then k6 (fun _ h => .inl h)).alloc _).alloc _)
  go_wp2_with fail
  generalize hW6 : ((w6.alloc (.cells #[.int .i64 2, .int .u64 client, .int .u64 peer, .int .u64 own] 36)).alloc (.cells #[.int .i64 1, .int .u64 own, .int .u64 0, .int .u64 client] 36)) = W6 at *
  clear hW6
  try simp only [World.size_alloc] at B6
  generalize w6.heap.size = b6 at *
  clear A6 k6 c6_0 l6_0 n5 B5
  refine (HA1 W6).mono ?_
  rintro e w7 ⟨rfl, k7⟩
  have A7 := B6.keep k7
  have c7_0 := A7.cells (.tail _ (.tail _ (.tail _ (.tail _ (.tail _ (.tail _ (.head _)))))))
  have l7_0 := A7.lt (.tail _ (.tail _ (.tail _ (.tail _ (.tail _ (.tail _ (.head _)))))))
  have B7 := ((A7.alloc #[.int .i64 a0, .int .u64 a1, .int .u64 a2, .int .u64 a3]).alloc #[.int .i64 d0, .int .u64 d1, .int .u64 d2, .int .u64 d3])
  have n7 : New w ((w7.alloc (.cells #[.int .i64 a0, .int .u64 a1, .int .u64 a2, .int .u64 a3] 36)).alloc (.cells #[.int .i64 d0, .int .u64 d1, .int .u64 d2, .int .u64 d3] 36)) := (((n6.then k7 (fun _ h => .inl h)).alloc _).alloc _)
  go_wp2_with fail
  generalize hW7 : ((w7.alloc (.cells #[.int .i64 a0, .int .u64 a1, .int .u64 a2, .int .u64 a3] 36)).alloc (.cells #[.int .i64 d0, .int .u64 d1, .int .u64 d2, .int .u64 d3] 36)) = W7 at *
  clear hW7
  try simp only [World.size_alloc] at B7
  generalize w7.heap.size = b7 at *
  clear A7 k7 c7_0 l7_0 n6 B6
  refine (HA2 W7).mono ?_
  rintro e w8 ⟨rfl, k8⟩
  have A8 := B7.keep k8
  have c8_0 := A8.cells (.tail _ (.tail _ (.tail _ (.tail _ (.tail _ (.tail _ (.tail _ (.tail _ (.head _)))))))))
  have l8_0 := A8.lt (.tail _ (.tail _ (.tail _ (.tail _ (.tail _ (.tail _ (.tail _ (.tail _ (.head _)))))))))
  have B8 := ((A8.alloc #[.int .i64 a0, .int .u64 a1, .int .u64 a2, .int .u64 a3]).alloc #[.int .i64 d0, .int .u64 d1, .int .u64 d2, .int .u64 d3])
  have n8 : New w ((w8.alloc (.cells #[.int .i64 a0, .int .u64 a1, .int .u64 a2, .int .u64 a3] 36)).alloc (.cells #[.int .i64 d0, .int .u64 d1, .int .u64 d2, .int .u64 d3] 36)) := (((n7.then k8 (fun _ h => .inl h)).alloc _).alloc _)
  go_wp2_with fail
  generalize hW8 : ((w8.alloc (.cells #[.int .i64 a0, .int .u64 a1, .int .u64 a2, .int .u64 a3] 36)).alloc (.cells #[.int .i64 d0, .int .u64 d1, .int .u64 d2, .int .u64 d3] 36)) = W8 at *
  clear hW8
  try simp only [World.size_alloc] at B8
  generalize w8.heap.size = b8 at *
  clear A8 k8 c8_0 l8_0 n7 B7
  refine (HC1 W8).mono ?_
  rintro e w9 ⟨rfl, k9⟩
  have A9 := B8.keep k9
  have c9_0 := A9.cells (.tail _ (.tail _ (.tail _ (.tail _ (.tail _ (.tail _ (.tail _ (.tail _ (.tail _ (.tail _ (.head _)))))))))))
  have l9_0 := A9.lt (.tail _ (.tail _ (.tail _ (.tail _ (.tail _ (.tail _ (.tail _ (.tail _ (.tail _ (.tail _ (.head _)))))))))))
  have B9 := ((A9.alloc #[.int .i64 f0, .int .u64 f1, .int .u64 f2, .int .u64 f3]).alloc #[.int .i64 g0, .int .u64 g1, .int .u64 g2, .int .u64 g3])
  have n9 : New w ((w9.alloc (.cells #[.int .i64 f0, .int .u64 f1, .int .u64 f2, .int .u64 f3] 36)).alloc (.cells #[.int .i64 g0, .int .u64 g1, .int .u64 g2, .int .u64 g3] 36)) := (((n8.then k9 (fun _ h => .inl h)).alloc _).alloc _)
  go_wp2_with fail
  generalize hW9 : ((w9.alloc (.cells #[.int .i64 f0, .int .u64 f1, .int .u64 f2, .int .u64 f3] 36)).alloc (.cells #[.int .i64 g0, .int .u64 g1, .int .u64 g2, .int .u64 g3] 36)) = W9 at *
  clear hW9
  try simp only [World.size_alloc] at B9
  generalize w9.heap.size = b9 at *
  clear A9 k9 c9_0 l9_0 n8 B8
  refine (HC2 W9).mono ?_
  rintro e w10 ⟨rfl, k10⟩
  have A10 := B9.keep k10
  have c10_0 := A10.cells (.tail _ (.tail _ (.tail _ (.tail _ (.tail _ (.tail _ (.tail _ (.tail _ (.tail _ (.tail _ (.tail _ (.head _))))))))))))
  have l10_0 := A10.lt (.tail _ (.tail _ (.tail _ (.tail _ (.tail _ (.tail _ (.tail _ (.tail _ (.tail _ (.tail _ (.tail _ (.head _))))))))))))
  have c10_1 := A10.cells (.tail _ (.tail _ (.tail _ (.tail _ (.tail _ (.tail _ (.tail _ (.tail _ (.tail _ (.tail _ (.head _)))))))))))
  have l10_1 := A10.lt (.tail _ (.tail _ (.tail _ (.tail _ (.tail _ (.tail _ (.tail _ (.tail _ (.tail _ (.tail _ (.head _)))))))))))
  have c10_2 := A10.cells (.tail _ (.tail _ (.tail _ (.tail _ (.tail _ (.tail _ (.tail _ (.tail _ (.tail _ (.head _))))))))))
  have l10_2 := A10.lt (.tail _ (.tail _ (.tail _ (.tail _ (.tail _ (.tail _ (.tail _ (.tail _ (.tail _ (.head _))))))))))
  have c10_3 := A10.cells (.tail _ (.tail _ (.tail _ (.tail _ (.tail _ (.tail _ (.tail _ (.tail _ (.head _)))))))))
  have l10_3 := A10.lt (.tail _ (.tail _ (.tail _ (.tail _ (.tail _ (.tail _ (.tail _ (.tail _ (.head _)))))))))
  have m10_3 := Nat.lt_of_succ_lt l10_3
  have c10_4 := A10.cells (.tail _ (.tail _ (.tail _ (.tail _ (.tail _ (.tail _ (.tail _ (.head _))))))))
  have l10_4 := A10.lt (.tail _ (.tail _ (.tail _ (.tail _ (.tail _ (.tail _ (.tail _ (.head _))))))))
  have c10_5 := A10.cells (.tail _ (.tail _ (.tail _ (.tail _ (.tail _ (.tail _ (.head _)))))))
  have l10_5 := A10.lt (.tail _ (.tail _ (.tail _ (.tail _ (.tail _ (.tail _ (.head _)))))))
  have m10_5 := Nat.lt_of_succ_lt l10_5
  have B10 := ((A10.alloc #[.int .i64 f0, .int .u64 f1, .int .u64 f2, .int .u64 f3]).alloc #[.int .i64 g0, .int .u64 g1, .int .u64 g2, .int .u64 g3])
  have n10 : New w ((w10.alloc (.cells #[.int .i64 f0, .int .u64 f1, .int .u64 f2, .int .u64 f3] 36)).alloc (.cells #[.int .i64 g0, .int .u64 g1, .int .u64 g2, .int .u64 g3] 36)) := (((n9.then k10 (fun _ h => .inl h)).alloc _).alloc _)
  go_wp2_with fail
  generalize hW10 : ((w10.alloc (.cells #[.int .i64 f0, .int .u64 f1, .int .u64 f2, .int .u64 f3] 36)).alloc (.cells #[.int .i64 g0, .int .u64 g1, .int .u64 g2, .int .u64 g3] 36)) = W10 at *
  clear hW10
  try simp only [World.size_alloc] at B10
  generalize w10.heap.size = b10 at *
  clear A10 k10 n9 B9 c10_0 l10_0 c10_1 l10_1 c10_2 l10_2 c10_3 l10_3 c10_4 l10_4 c10_5 l10_5
  refine (init_any client own W10).mono ?_
  rintro e v1 ⟨rfl, q1⟩
  have A := B10.keep q1
  have n := n10.then q1 (fun _ h => .inl h)
  clear B10 n10 q1
  go_wp2_with fail
  refine (init2_any client own v1).mono ?_
  rintro e v2 ⟨rfl, q2⟩
  have A' := A.keep q2
  have n' := n.then q2 (fun _ h => .inl h)
  clear A n q2
  have e0 := A'.cells (.tail _ (.tail _ (.tail _ (.tail _ (.tail _ (.tail _ (.tail _ (.head _))))))))
  have e1 := A'.cells (.tail _ (.tail _ (.tail _ (.tail _ (.tail _ (.tail _ (.head _)))))))
  have e2 := A'.cells (.tail _ (.tail _ (.tail _ (.tail _ (.tail _ (.head _))))))
  have e3 := A'.cells (.tail _ (.tail _ (.tail _ (.tail _ (.head _)))))
  have e4 := A'.cells (.tail _ (.tail _ (.tail _ (.head _))))
  have e5 := A'.cells (.tail _ (.tail _ (.head _)))
  have e6 := A'.cells (.tail _ (.head _))
  have e7 := A'.cells (.head _)
  go_wp2_with fail
  go_ret
  exact ⟨rfl, n'⟩
end Go.Proofs.Ytclldibadmnppaa
