/-
  voussoirlaw19.CoinTells: the walk.
-/
import Derived.Test.YtcldbipipehedaaTr6
import Derived.Test.YtcldbipipehedaaAwl
namespace Go.Proofs.Ytcldbipipehedaa
open Go.RowKit Go.ChangeMaps
theorem eqC (a c d : ByteArray) (b : Int) (w : World) : (binOp .eql 41 (.agg #[.string a, .int .u64 b, .string c, .string d]) (.agg #[.string a, .int .u64 b, .string c, .string d])).run Try.prog w = .ok (.bool true) w := by
  simp [go_sem]
set_option maxHeartbeats 8000000 in
set_option maxRecDepth 100000 in
theorem tells_walk (c : Co) (s : List UInt8) (ch : Nat) (d : List UInt8) (hv : U64 c.amt) (hch : U64 ch) (hd : d.length ≤ 9000000000000000000) (w : World) :
    Calls Try.prog 7 #[.agg #[.string ⟨c.den.toArray⟩, .int .u64 c.amt, .string ⟨c.fr.toArray⟩, .string ⟨c.to.toArray⟩], .string ⟨s.toArray⟩, .int .u64 ch, .string ⟨d.toArray⟩] w fun e w' => e = .returned (.bool true) ∧ New w w' := by
  have n1 : New w (w.alloc (.cells #[.string ⟨c.den.toArray⟩, .int .u64 c.amt, .string ⟨c.fr.toArray⟩, .string ⟨c.to.toArray⟩] 41)) := (New.refl w).alloc _
  have q1 : cn (w.alloc (.cells #[.string ⟨c.den.toArray⟩, .int .u64 c.amt, .string ⟨c.fr.toArray⟩, .string ⟨c.to.toArray⟩] 41)) w.heap.size c := heap_alloc_new w _
  have L1 := fun w => cLay c w
  have L2 := fun w => cLay2 c hv w
  have T1 := fun w => cTake (s, false) rfl w
  have T2 := fun w => cTake2 (s, false) rfl w
  have H1 := fun w => home_any ch hch d w
  have H2 := fun w => home2_any ch hch d w
  have V1 := fun w => vou_any ch hch d hd w
  have V2 := fun w => vou2_any ch hch d hd w
  have H3 := fun w => home_any ch hch (vouL ch d) w
  rw [isHome_vou, homeL_vou] at H3
  have E1 := fun w => esc_any ch hch w
  have E2 := fun w => esc2_any ch hch w
  have EQ := eqC
  generalize vouL ch d = v at *
  generalize escL ch = es at *
  generalize homeL ch d = hl at *
  generalize isHome ch d = hb at *
  generalize layO c = lo at *
  generalize layE c = le at *
  simp only at T1 T2
  generalize (tkO (s, false)).den = t0 at *
  generalize (tkO (s, false)).amt = t1 at *
  generalize (tkO (s, false)).fr = t2 at *
  generalize (tkO (s, false)).to = t3 at *
  generalize tkE (s, false) = te at *
  clear hd hv hch
  go_enter Try.func7, Try.ntmps7
  go_wp2_with fail
  generalize World.alloc w _ = W1 at *
  generalize w.heap.size = q at *
  refine (awake_any _).mono ?_
  rintro e w2 ⟨rfl, k2⟩
  have n2 := n1.then k2 (fun _ h => h.elim)
  have q2 := q1.keep k2
  clear n1 q1 k2
  have d2 := q2.cells
  go_wp2_with fail
  refine (L1 _).mono ?_
  rintro e w3 ⟨rfl, k3⟩
  have n3 := n2.then k3 (fun _ h => h.elim)
  have q3 := q2.keep k3
  clear n2 q2 k3 d2 L1
  have d3 := q3.cells
  go_wp2_with fail
  refine (L2 _).mono ?_
  rintro e w4 ⟨rfl, k4⟩
  have n4 := n3.then k4 (fun _ h => h.elim)
  clear n3 q3 k4 d3 L2
  go_wp2_with fail
  refine (T1 _).mono ?_
  rintro e w5 ⟨rfl, k5⟩
  have n5 := n4.then k5 (fun _ h => h.elim)
  clear n4 k5 T1
  have x5 : c4 (w5.alloc (.cells #[.string ⟨t0.toArray⟩, .int .u64 t1, .string ⟨t2.toArray⟩, .string ⟨t3.toArray⟩] 41)) w5.heap.size (.string ⟨t0.toArray⟩) (.int .u64 t1) (.string ⟨t2.toArray⟩) (.string ⟨t3.toArray⟩) := heap_alloc_new w5 _
  have n6 : New w (w5.alloc (.cells #[.string ⟨t0.toArray⟩, .int .u64 t1, .string ⟨t2.toArray⟩, .string ⟨t3.toArray⟩] 41)) := n5.alloc _
  go_wp2_with fail
  generalize World.alloc w5 _ = w6 at *
  generalize w5.heap.size = X at *
  clear n5
  refine (T2 _).mono ?_
  rintro e w7 ⟨rfl, k7⟩
  have n7 := n6.then k7 (fun _ h => h.elim)
  have x7 : c4 w7 X (.string ⟨t0.toArray⟩) (.int .u64 t1) (.string ⟨t2.toArray⟩) (.string ⟨t3.toArray⟩) := k7.kept x5 (fun h => h)
  clear n6 k7 T2 x5
  have y8 : c4 (w7.alloc (.cells #[.string ⟨t0.toArray⟩, .int .u64 t1, .string ⟨t2.toArray⟩, .string ⟨t3.toArray⟩] 41)) w7.heap.size (.string ⟨t0.toArray⟩) (.int .u64 t1) (.string ⟨t2.toArray⟩) (.string ⟨t3.toArray⟩) := heap_alloc_new w7 _
  have m8 : New w7 (w7.alloc (.cells #[.string ⟨t0.toArray⟩, .int .u64 t1, .string ⟨t2.toArray⟩, .string ⟨t3.toArray⟩] 41)) := (New.refl w7).alloc _
  have x8 : c4 (w7.alloc (.cells #[.string ⟨t0.toArray⟩, .int .u64 t1, .string ⟨t2.toArray⟩, .string ⟨t3.toArray⟩] 41)) X (.string ⟨t0.toArray⟩) (.int .u64 t1) (.string ⟨t2.toArray⟩) (.string ⟨t3.toArray⟩) := m8.kept x7 (fun h => h)
  have n8 := n7.then m8 (fun _ h => h.elim)
  clear x7 m8 n7
  go_wp2_with fail
  generalize World.alloc w7 _ = w8 at *
  generalize w7.heap.size = Y at *
  refine (H1 _).mono ?_
  rintro e w9 ⟨rfl, k9⟩
  have n9 := n8.then k9 (fun _ h => h.elim)
  have x9 : c4 w9 X (.string ⟨t0.toArray⟩) (.int .u64 t1) (.string ⟨t2.toArray⟩) (.string ⟨t3.toArray⟩) := k9.kept x8 (fun h => h)
  have y9 : c4 w9 Y (.string ⟨t0.toArray⟩) (.int .u64 t1) (.string ⟨t2.toArray⟩) (.string ⟨t3.toArray⟩) := k9.kept y8 (fun h => h)
  clear n8 x8 y8 k9 H1
  go_wp2_with fail
  refine (H2 _).mono ?_
  rintro e w10 ⟨rfl, k10⟩
  have n10 := n9.then k10 (fun _ h => h.elim)
  have x10 : c4 w10 X (.string ⟨t0.toArray⟩) (.int .u64 t1) (.string ⟨t2.toArray⟩) (.string ⟨t3.toArray⟩) := k10.kept x9 (fun h => h)
  have y10 : c4 w10 Y (.string ⟨t0.toArray⟩) (.int .u64 t1) (.string ⟨t2.toArray⟩) (.string ⟨t3.toArray⟩) := k10.kept y9 (fun h => h)
  clear n9 x9 y9 k10 H2
  go_wp2_with fail
  refine (V1 _).mono ?_
  rintro e w11 ⟨rfl, k11⟩
  go_wp2_with fail
  refine (H3 _).mono ?_
  rintro e w12 ⟨rfl, k12⟩
  have k13 := k11.then k12 (fun _ h => h.elim)
  have n12 := n10.then k13 (fun _ h => h.elim)
  have x12 : c4 w12 X (.string ⟨t0.toArray⟩) (.int .u64 t1) (.string ⟨t2.toArray⟩) (.string ⟨t3.toArray⟩) := k13.kept x10 (fun h => h)
  have y12 : c4 w12 Y (.string ⟨t0.toArray⟩) (.int .u64 t1) (.string ⟨t2.toArray⟩) (.string ⟨t3.toArray⟩) := k13.kept y10 (fun h => h)
  clear n10 x10 y10 k11 k12 k13 H3
  have dx := cells4 x12
  have dy := cells4 y12
  have EA := fun w => EQ ⟨t0.toArray⟩ ⟨t2.toArray⟩ ⟨t3.toArray⟩ (t1 : Int) w
  clear EQ
  go_wp2_with fail
  refine (E1 _).mono ?_
  rintro e w14 ⟨rfl, k14⟩
  have n14 := n12.then k14 (fun _ h => h.elim)
  clear n12 x12 y12 dx dy k14 E1
  go_wp2_with fail
  refine (E2 _).mono ?_
  rintro e w15 ⟨rfl, k15⟩
  have n15 := n14.then k15 (fun _ h => h.elim)
  clear n14 k15 E2
  go_wp2_with fail
  refine (V1 _).mono ?_
  rintro e w16 ⟨rfl, k16⟩
  have n16 := n15.then k16 (fun _ h => h.elim)
  clear n15 k16 V1
  go_wp2_with fail
  refine (V2 _).mono ?_
  rintro e w17 ⟨rfl, k17⟩
  have n17 := n16.then k17 (fun _ h => h.elim)
  clear n16 k17 V2
  go_wp2_with fail
  go_ret
  exact ⟨rfl, n17⟩
end Go.Proofs.Ytcldbipipehedaa
