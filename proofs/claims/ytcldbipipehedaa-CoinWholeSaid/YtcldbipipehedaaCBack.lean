/-
  voussoirlaw19.CoinBack: the walk.
-/
import Derived.Test.YtcldbipipehedaaCPl
import Derived.Test.YtcldbipipehedaaAwl
import Derived.Test.YtcldbipipehedaaCTells
namespace Go.Proofs.Ytcldbipipehedaa
open Go.RowKit Go.ChangeMaps
theorem mk_ext (b : UInt8) (x : List UInt8) (k : Nat) (m : Int) (h : m = (k : Int)) : ((⟨#[b]⟩ : ByteArray) ++ ⟨x.toArray⟩).extract 0 (min ((x.length : Int) + 1) m).toNat = ⟨(mk b x k).toArray⟩ := by
  show ((⟨[b].toArray⟩ : ByteArray) ++ ⟨x.toArray⟩).extract 0 (min ((x.length : Int) + 1) m).toNat = _
  rw [str_append, ext_take, h]
  congr 2
  unfold mk
  by_cases hk : x.length + 1 ≤ k
  · rw [show (min ((x.length : Int) + 1) (k : Int)).toNat = x.length + 1 by omega, List.take_of_length_le (by simp), List.take_of_length_le (by simp; omega)]
    rfl
  · rw [show (min ((x.length : Int) + 1) (k : Int)).toNat = k by omega]
    rfl
theorem neC (a c d : ByteArray) (b : Int) (w : World) : (binOp .neq 41 (.agg #[.string a, .int .u64 b, .string c, .string d]) (.agg #[.string a, .int .u64 b, .string c, .string d])).run Try.prog w = .ok (.bool false) w := by
  simp [go_sem]
theorem tk_right {c : Co} (hr : rightC c = true) : layO c = layC c ∧ layE c = 0 := by
  unfold layO layE; rw [hr]; exact ⟨rfl, rfl⟩
set_option maxHeartbeats 8000000 in
set_option maxRecDepth 100000 in
theorem back_walk (c : Co) (s : List UInt8) (hv : U64 c.amt) (h1 : c.den.length ≤ 140737488355328) (h2 : c.fr.length ≤ 140737488355328) (h3 : c.to.length ≤ 140737488355328) (w : World) :
    Calls Try.prog 8 #[.agg #[.string ⟨c.den.toArray⟩, .int .u64 c.amt, .string ⟨c.fr.toArray⟩, .string ⟨c.to.toArray⟩], .string ⟨s.toArray⟩] w fun e w' => e = .returned (.bool true) ∧ New w w' := by
  have n1 : New w (w.alloc (.cells #[.string ⟨c.den.toArray⟩, .int .u64 c.amt, .string ⟨c.fr.toArray⟩, .string ⟨c.to.toArray⟩] 41)) := (New.refl w).alloc _
  have q1 : cn (w.alloc (.cells #[.string ⟨c.den.toArray⟩, .int .u64 c.amt, .string ⟨c.fr.toArray⟩, .string ⟨c.to.toArray⟩] 41)) w.heap.size c := heap_alloc_new w _
  have X1 := mk_ext 100 c.den 128 128 rfl
  have X2 := mk_ext 102 c.fr 32 32 rfl
  have X3 := mk_ext 116 c.to 32 32 rfl
  obtain ⟨N, hN⟩ : ∃ N, N = max c.amt 1 := ⟨_, rfl⟩
  have XM : max (c.amt : Int) 1 = (N : Int) := by rw [hN]; omega
  have HC : Hid ((⟨mk 100 c.den 128, N, mk 102 c.fr 32, mk 116 c.to 32⟩ : Co) = mkC c) := by rw [Hid, hN]; rfl
  clear hN
  generalize mk 100 c.den 128 = m0 at *
  generalize mk 102 c.fr 32 = m2 at *
  generalize mk 116 c.to 32 = m3 at *
  have hr := mkC_right c
  have hu := mkC_u hv
  have L0 : ∀ w, Calls Try.prog 41 #[.agg #[.string ⟨m0.toArray⟩, .int .u64 (N : Int), .string ⟨m2.toArray⟩, .string ⟨m3.toArray⟩]] w fun e w' => e = .returned (.tuple #[.string ⟨(layC (mkC c)).toArray⟩, .int .i64 0]) ∧ New w w' := by
    intro w
    have h := cLay ⟨m0, N, m2, m3⟩ w
    rw [HC.out, (tk_right hr).1, (tk_right hr).2] at h
    have h5 := HC.out
    rw [← h5] at h
    rw [← h5]
    exact h
  have T0 : ∀ w, Calls Try.prog 43 #[.string ⟨(layC (mkC c)).toArray⟩] w fun e w' => e = .returned (.tuple #[.agg #[.string ⟨m0.toArray⟩, .int .u64 (N : Int), .string ⟨m2.toArray⟩, .string ⟨m3.toArray⟩], .int .i64 0]) ∧ New w w' := by
    intro w
    have h := cTake (layC (mkC c), false) rfl w
    rw [(tk_lay hr hu).1, (tk_lay hr hu).2] at h
    have h5 := HC.out
    rw [← h5] at h
    rw [← h5]
    exact h
  have T1 := fun w => cTake (s, false) rfl w
  have NE := neC
  have EQ := eqC
  have n0 := New.refl w
  clear hr hu HC hv
  generalize layC (mkC c) = lo at *
  go_enter Try.func8, Try.ntmps8
  go_wp2_with fail
  have hq0 : w.heap.size ≤ w.heap.size := Nat.le_refl _
  revert hq0
  generalize World.alloc w _ = W1 at *
  generalize hq : w.heap.size = q at *
  intro hq0
  have hq1 : w.heap.size ≤ q := by omega
  clear hq hq0
  refine (awake_any _).mono ?_
  rintro e w2 ⟨rfl, k2⟩
  have n2 := n1.then k2 (fun _ h => h.elim)
  have q2 : c4 w2 q (.string ⟨c.den.toArray⟩) (.int .u64 c.amt) (.string ⟨c.fr.toArray⟩) (.string ⟨c.to.toArray⟩) := q1.keep k2
  clear n1 q1 k2
  have d2 := cells4 q2
  go_upto_region 6 with (fail)
  have q3 := (((q2.set0 (.string ⟨m0.toArray⟩)).set2 (.string ⟨m2.toArray⟩)).set3 (.string ⟨m3.toArray⟩)).set1 (.int .u64 (N : Int))
  have n3 := (((n2.set hq1 0 (.string ⟨m0.toArray⟩)).set hq1 2 (.string ⟨m2.toArray⟩)).set hq1 3 (.string ⟨m3.toArray⟩)).set hq1 1 (.int .u64 (N : Int))
  generalize World.setCell (World.setCell (World.setCell (World.setCell w2 _ _) _ _) _ _) _ _ = w3 at *
  clear d2 q2 n2 X1 X2 X3 XM h1 h2 h3 w2
  have d3 := cells4 q3
  go_wp2_with fail
  refine (L0 _).mono ?_
  rintro e w4 ⟨rfl, k4⟩
  have n4 := n3.then k4 (fun _ h => h.elim)
  have q4 : c4 w4 q (.string ⟨m0.toArray⟩) (.int .u64 (N : Int)) (.string ⟨m2.toArray⟩) (.string ⟨m3.toArray⟩) := k4.kept q3 (fun h => h)
  clear d3 q3 n3 k4 L0
  go_wp2_with fail
  refine (T0 _).mono ?_
  rintro e w5 ⟨rfl, k5⟩
  have n5 := n4.then k5 (fun _ h => h.elim)
  have q5 : c4 w5 q (.string ⟨m0.toArray⟩) (.int .u64 (N : Int)) (.string ⟨m2.toArray⟩) (.string ⟨m3.toArray⟩) := k5.kept q4 (fun h => h)
  clear q4 n4 k5 T0
  go_upto_region 8 with (fail)
  have m6 : New w5 (w5.alloc (.cells #[.string ⟨m0.toArray⟩, .int .u64 (N : Int), .string ⟨m2.toArray⟩, .string ⟨m3.toArray⟩] 41)) := (New.refl w5).alloc _
  have x6 : c4 (w5.alloc (.cells #[.string ⟨m0.toArray⟩, .int .u64 (N : Int), .string ⟨m2.toArray⟩, .string ⟨m3.toArray⟩] 41)) w5.heap.size (.string ⟨m0.toArray⟩) (.int .u64 (N : Int)) (.string ⟨m2.toArray⟩) (.string ⟨m3.toArray⟩) := heap_alloc_new w5 _
  have q6 : c4 (w5.alloc (.cells #[.string ⟨m0.toArray⟩, .int .u64 (N : Int), .string ⟨m2.toArray⟩, .string ⟨m3.toArray⟩] 41)) q (.string ⟨m0.toArray⟩) (.int .u64 (N : Int)) (.string ⟨m2.toArray⟩) (.string ⟨m3.toArray⟩) := m6.kept q5 (fun h => h)
  have n6 := n5.then m6 (fun _ h => h.elim)
  clear q5 n5 m6
  generalize World.alloc w5 _ = w6 at *
  generalize w5.heap.size = X at *
  try simp only at T1
  have NEA := fun w => NE ⟨m0.toArray⟩ ⟨m2.toArray⟩ ⟨m3.toArray⟩ (N : Int) w
  clear NE
  rcases hk : okTk (s, false) with _ | _
  · rw [(tk_no hk).1, (tk_no hk).2] at T1
    have T2 : ∀ w, Calls Try.prog 43 #[.string ⟨s.toArray⟩] w fun e w' => e = .returned (.tuple #[.agg #[.string ⟨#[]⟩, .int .u64 0, .string ⟨#[]⟩, .string ⟨#[]⟩], .int .i64 190]) ∧ New w w' := T1
    have EA := fun w => EQ ⟨#[]⟩ ⟨#[]⟩ ⟨#[]⟩ 0 w
    clear hk T1 EQ
    go_wp2_with fail
    refine (T2 _).mono ?_
    rintro e w7 ⟨rfl, k7⟩
    have n7 := n6.then k7 (fun _ h => h.elim)
    have q7 : c4 w7 q (.string ⟨m0.toArray⟩) (.int .u64 (N : Int)) (.string ⟨m2.toArray⟩) (.string ⟨m3.toArray⟩) := k7.kept q6 (fun h => h)
    have x7 : c4 w7 X (.string ⟨m0.toArray⟩) (.int .u64 (N : Int)) (.string ⟨m2.toArray⟩) (.string ⟨m3.toArray⟩) := k7.kept x6 (fun h => h)
    clear q6 x6 n6 k7 T2
    go_upto_region 9 with (fail)
    have m8 : New w7 (w7.alloc (.cells #[.string ⟨#[]⟩, .int .u64 0, .string ⟨#[]⟩, .string ⟨#[]⟩] 41)) := (New.refl w7).alloc _
    have y8 : c4 (w7.alloc (.cells #[.string ⟨#[]⟩, .int .u64 0, .string ⟨#[]⟩, .string ⟨#[]⟩] 41)) w7.heap.size (.string ⟨#[]⟩) (.int .u64 0) (.string ⟨#[]⟩) (.string ⟨#[]⟩) := heap_alloc_new w7 _
    have q8 := m8.kept q7 (fun h => h)
    have x8 := m8.kept x7 (fun h => h)
    have n8 := n7.then m8 (fun _ h => h.elim)
    clear q7 x7 n7 m8
    generalize World.alloc w7 _ = w8 at *
    generalize w7.heap.size = Y at *
    have dq := cells4 q8
    have dx := cells4 x8
    have dy := cells4 y8
    go_wp2_with fail
    go_ret
    exact ⟨rfl, n8⟩
  · obtain ⟨t1, t2, t3, t4⟩ := tk_yes hk
    rw [t1, t2] at T1
    have L1 := fun w => cLay (takC (s, false)) w
    rw [t3, t4] at L1
    clear t1 t2 t3 t4 hk EQ
    generalize (takC (s, false)).den = t0 at *
    generalize (takC (s, false)).amt = t1 at *
    generalize (takC (s, false)).fr = t2 at *
    generalize (takC (s, false)).to = t3 at *
    go_wp2_with fail
    refine (T1 _).mono ?_
    rintro e w7 ⟨rfl, k7⟩
    have n7 := n6.then k7 (fun _ h => h.elim)
    have q7 : c4 w7 q (.string ⟨m0.toArray⟩) (.int .u64 (N : Int)) (.string ⟨m2.toArray⟩) (.string ⟨m3.toArray⟩) := k7.kept q6 (fun h => h)
    have x7 : c4 w7 X (.string ⟨m0.toArray⟩) (.int .u64 (N : Int)) (.string ⟨m2.toArray⟩) (.string ⟨m3.toArray⟩) := k7.kept x6 (fun h => h)
    clear q6 x6 n6 k7 T1
    go_upto_region 9 with (fail)
    have m8 : New w7 (w7.alloc (.cells #[.string ⟨t0.toArray⟩, .int .u64 t1, .string ⟨t2.toArray⟩, .string ⟨t3.toArray⟩] 41)) := (New.refl w7).alloc _
    have y8 : c4 (w7.alloc (.cells #[.string ⟨t0.toArray⟩, .int .u64 t1, .string ⟨t2.toArray⟩, .string ⟨t3.toArray⟩] 41)) w7.heap.size (.string ⟨t0.toArray⟩) (.int .u64 t1) (.string ⟨t2.toArray⟩) (.string ⟨t3.toArray⟩) := heap_alloc_new w7 _
    have q8 := m8.kept q7 (fun h => h)
    have x8 := m8.kept x7 (fun h => h)
    have n8 := n7.then m8 (fun _ h => h.elim)
    clear q7 x7 n7 m8
    generalize World.alloc w7 _ = w8 at *
    generalize w7.heap.size = Y at *
    have dq := cells4 q8
    have dx := cells4 x8
    have dy := cells4 y8
    go_wp2_with fail
    refine (L1 _).mono ?_
    rintro e w9 ⟨rfl, k9⟩
    have n9 := n8.then k9 (fun _ h => h.elim)
    clear dq dx dy q8 x8 y8 n8 k9
    go_wp2_with fail
    go_ret
    exact ⟨rfl, n9⟩
end Go.Proofs.Ytcldbipipehedaa
