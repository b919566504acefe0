/-
  voussoirlaw19.CoinWhole: the walk.
-/
import Derived.Test.YtcldbipipehedaaCBack
import Derived.Test.YtcldbipipehedaaPkC
namespace Go.Proofs.Ytcldbipipehedaa
open Go.RowKit Go.ChangeMaps
set_option maxHeartbeats 8000000 in
set_option maxRecDepth 100000 in
theorem whole_walk (c : Co) (cut : Int) (r : List UInt8) (hv : U64 c.amt) (hcut : I64 cut) (hr9 : r.length ≤ 140737488355328) (h1 : c.den.length ≤ 140737488355328) (h2 : c.fr.length ≤ 140737488355328) (h3 : c.to.length ≤ 140737488355328) (w : World) :
    Calls Try.prog 9 #[.agg #[.string ⟨c.den.toArray⟩, .int .u64 c.amt, .string ⟨c.fr.toArray⟩, .string ⟨c.to.toArray⟩], .int .i64 cut, .string ⟨r.toArray⟩] w fun e w' => e = .returned (.bool true) ∧ New w w' := by
  have n1 : New w (w.alloc (.cells #[.string ⟨c.den.toArray⟩, .int .u64 c.amt, .string ⟨c.fr.toArray⟩, .string ⟨c.to.toArray⟩] 41)) := (New.refl w).alloc _
  have q1 : cn (w.alloc (.cells #[.string ⟨c.den.toArray⟩, .int .u64 c.amt, .string ⟨c.fr.toArray⟩, .string ⟨c.to.toArray⟩] 41)) w.heap.size c := heap_alloc_new w _
  have X1 := mk_ext 100 c.den 128 128 rfl
  have X2 := mk_ext 102 c.fr 32 32 rfl
  have X3 := mk_ext 116 c.to 32 32 rfl
  obtain ⟨N, hN⟩ : ∃ N, N = max c.amt 1 := ⟨_, rfl⟩
  have XM : max (c.amt : Int) 1 = (N : Int) := by rw [hN]; omega
  have HC : Hid ((⟨mk 100 c.den 128, N, mk 102 c.fr 32, mk 116 c.to 32⟩ : Co) = mkC c) := by rw [Hid, hN]; rfl
  clear hN
  generalize mk 100 c.den 128 = m0 at *
  generalize mk 102 c.fr 32 = m2 at *
  generalize mk 116 c.to 32 = m3 at *
  have hr := mkC_right c
  have hu := mkC_u hv
  have L0 : ∀ w, Calls Try.prog 41 #[.agg #[.string ⟨m0.toArray⟩, .int .u64 (N : Int), .string ⟨m2.toArray⟩, .string ⟨m3.toArray⟩]] w fun e w' => e = .returned (.tuple #[.string ⟨(layC (mkC c)).toArray⟩, .int .i64 0]) ∧ New w w' := by
    intro w
    have h := cLay ⟨m0, N, m2, m3⟩ w
    rw [HC.out, (tk_right hr).1, (tk_right hr).2] at h
    have h5 := HC.out
    rw [← h5] at h
    rw [← h5]
    exact h
  have hpos := layC_pos (mkC c)
  have hle := layC_le hr
  have PK := fun w => pickC_any cut (layC (mkC c)).length w hcut (by omega) (by omega)
  have hpk := pk_lt cut (layC (mkC c)).length (by omega)
  have XC := ext_take (layC (mkC c)) (pk cut (layC (mkC c)).length)
  have T0 : ∀ w, Calls Try.prog 43 #[.string ⟨((layC (mkC c)).take (pk cut (layC (mkC c)).length)).toArray⟩] w fun e w' => e = .returned (.tuple #[.agg #[.string ⟨#[]⟩, .int .u64 0, .string ⟨#[]⟩, .string ⟨#[]⟩], .int .i64 190]) ∧ New w w' := by
    intro w
    have h := cTake ((layC (mkC c)).take (pk cut (layC (mkC c)).length), false) rfl w
    rw [(tk_no (cut_no hr hu hpk)).1, (tk_no (cut_no hr hu hpk)).2] at h
    exact h
  have hmo := more_ok hr hu r
  have T1 : ∀ w, Calls Try.prog 43 #[.string ⟨(layC (mkC c) ++ r).toArray⟩] w fun e w' => e = .returned (.tuple #[.agg #[.string ⟨(tkO (layC (mkC c) ++ r, false)).den.toArray⟩, .int .u64 (tkO (layC (mkC c) ++ r, false)).amt, .string ⟨(tkO (layC (mkC c) ++ r, false)).fr.toArray⟩, .string ⟨(tkO (layC (mkC c) ++ r, false)).to.toArray⟩], .int .i64 (tkE (layC (mkC c) ++ r, false))]) ∧ New w w' := fun w => cTake (layC (mkC c) ++ r, false) rfl w
  have XA := str_append (layC (mkC c)) r
  have HE : (layC (mkC c)).isEmpty = false := by rcases h : layC (mkC c) with _ | _; · rw [h] at hpos; simp at hpos
                                                 · rfl
  have hne : ¬ layC (mkC c) = [] := by intro h; rw [h] at hpos; simp at hpos
  have EQ := fun w => eqC ⟨#[]⟩ ⟨#[]⟩ ⟨#[]⟩ 0 w
  have n0 := New.refl w
  have hp0 : (0 : Int) ≤ (pk cut (layC (mkC c)).length : Int) := Int.natCast_nonneg _
  have HS : Hid (rightC (mkC c) = true ∧ U64 (mkC c).amt) := ⟨hr, hu⟩
  clear hr hu hv
  go_enter Try.func9, Try.ntmps9
  go_wp2_with fail
  have hq0 : w.heap.size ≤ w.heap.size := Nat.le_refl _
  revert hq0
  generalize World.alloc w _ = W1 at *
  generalize hq : w.heap.size = q at *
  intro hq0
  have hq1 : w.heap.size ≤ q := by omega
  clear hq hq0
  refine (awake_any _).mono ?_
  rintro e w2 ⟨rfl, k2⟩
  have n2 := n1.then k2 (fun _ h => h.elim)
  have q2 : c4 w2 q (.string ⟨c.den.toArray⟩) (.int .u64 c.amt) (.string ⟨c.fr.toArray⟩) (.string ⟨c.to.toArray⟩) := q1.keep k2
  clear n1 q1 k2
  have d2 := cells4 q2
  go_upto_region 6 with (fail)
  have q3 := (((q2.set0 (.string ⟨m0.toArray⟩)).set2 (.string ⟨m2.toArray⟩)).set3 (.string ⟨m3.toArray⟩)).set1 (.int .u64 (N : Int))
  have n3 := (((n2.set hq1 0 (.string ⟨m0.toArray⟩)).set hq1 2 (.string ⟨m2.toArray⟩)).set hq1 3 (.string ⟨m3.toArray⟩)).set hq1 1 (.int .u64 (N : Int))
  generalize World.setCell (World.setCell (World.setCell (World.setCell w2 _ _) _ _) _ _) _ _ = w3 at *
  clear d2 q2 n2 X1 X2 X3 XM h1 h2 h3 w2
  have d3 := cells4 q3
  go_wp2_with fail
  refine (L0 _).mono ?_
  rintro e w4 ⟨rfl, k4⟩
  have n4 := n3.then k4 (fun _ h => h.elim)
  have q4 : c4 w4 q (.string ⟨m0.toArray⟩) (.int .u64 (N : Int)) (.string ⟨m2.toArray⟩) (.string ⟨m3.toArray⟩) := k4.kept q3 (fun h => h)
  clear d3 q3 n3 k4 L0
  go_wp2_with fail
  refine (PK _).mono ?_
  rintro e w5 ⟨rfl, rfl⟩
  go_wp2_with fail
  refine (T0 _).mono ?_
  rintro e w5 ⟨rfl, k5⟩
  have n5 := n4.then k5 (fun _ h => h.elim)
  clear q4 n4 k5 T0 XC PK hpk hp0
  go_upto_region 10 with (fail)
  have m6 : New w5 (w5.alloc (.cells #[.string ⟨#[]⟩, .int .u64 0, .string ⟨#[]⟩, .string ⟨#[]⟩] 41)) := (New.refl w5).alloc _
  have x6 : c4 (w5.alloc (.cells #[.string ⟨#[]⟩, .int .u64 0, .string ⟨#[]⟩, .string ⟨#[]⟩] 41)) w5.heap.size (.string ⟨#[]⟩) (.int .u64 0) (.string ⟨#[]⟩) (.string ⟨#[]⟩) := heap_alloc_new w5 _
  have n6 := n5.then m6 (fun _ h => h.elim)
  clear n5 m6
  generalize World.alloc w5 _ = w6 at *
  generalize w5.heap.size = X at *
  rcases hE : r.isEmpty with _ | _
  case true =>
    obtain rfl : r = [] := List.isEmpty_iff.1 hE
    rw [List.append_nil] at T1 XA
    rw [(tk_lay HS.out.1 HS.out.2).1, (tk_lay HS.out.1 HS.out.2).2] at T1
    clear hmo HS HC
    generalize (mkC c).den = t0 at *
    generalize (mkC c).amt = t1 at *
    generalize (mkC c).fr = t2 at *
    generalize (mkC c).to = t3 at *
    generalize layC (mkC c) = lo at *
    go_wp2_with fail
    refine (T1 _).mono ?_
    rintro e w7 ⟨rfl, k7⟩
    have n7 := n6.then k7 (fun _ h => h.elim)
    have x7 : c4 w7 X (.string ⟨#[]⟩) (.int .u64 0) (.string ⟨#[]⟩) (.string ⟨#[]⟩) := k7.kept x6 (fun h => h)
    clear x6 n6 k7 T1
    go_upto_region 11 with (fail)
    have m8 : New w7 (w7.alloc (.cells #[.string ⟨t0.toArray⟩, .int .u64 t1, .string ⟨t2.toArray⟩, .string ⟨t3.toArray⟩] 41)) := (New.refl w7).alloc _
    have y8 : c4 (w7.alloc (.cells #[.string ⟨t0.toArray⟩, .int .u64 t1, .string ⟨t2.toArray⟩, .string ⟨t3.toArray⟩] 41)) w7.heap.size (.string ⟨t0.toArray⟩) (.int .u64 t1) (.string ⟨t2.toArray⟩) (.string ⟨t3.toArray⟩) := heap_alloc_new w7 _
    have x8 := m8.kept x7 (fun h => h)
    have n8 := n7.then m8 (fun _ h => h.elim)
    clear x7 n7 m8
    generalize World.alloc w7 _ = w8 at *
    generalize w7.heap.size = Y at *
    have dx := cells4 x8
    have dy := cells4 y8
    go_wp2_with fail
    go_ret
    exact ⟨rfl, n8⟩
  case false =>
    rw [hE] at hmo
    rw [(tk_no hmo).1, (tk_no hmo).2] at T1
    have T2 : ∀ w, Calls Try.prog 43 #[.string ⟨(layC (mkC c) ++ r).toArray⟩] w fun e w' => e = .returned (.tuple #[.agg #[.string ⟨#[]⟩, .int .u64 0, .string ⟨#[]⟩, .string ⟨#[]⟩], .int .i64 190]) ∧ New w w' := T1
    clear hmo HS HC T1
    generalize layC (mkC c) = lo at *
    go_wp2_with fail
    refine (T2 _).mono ?_
    rintro e w7 ⟨rfl, k7⟩
    have n7 := n6.then k7 (fun _ h => h.elim)
    have x7 : c4 w7 X (.string ⟨#[]⟩) (.int .u64 0) (.string ⟨#[]⟩) (.string ⟨#[]⟩) := k7.kept x6 (fun h => h)
    clear x6 n6 k7 T2
    go_upto_region 11 with (fail)
    have m8 : New w7 (w7.alloc (.cells #[.string ⟨#[]⟩, .int .u64 0, .string ⟨#[]⟩, .string ⟨#[]⟩] 41)) := (New.refl w7).alloc _
    have y8 : c4 (w7.alloc (.cells #[.string ⟨#[]⟩, .int .u64 0, .string ⟨#[]⟩, .string ⟨#[]⟩] 41)) w7.heap.size (.string ⟨#[]⟩) (.int .u64 0) (.string ⟨#[]⟩) (.string ⟨#[]⟩) := heap_alloc_new w7 _
    have x8 := m8.kept x7 (fun h => h)
    have n8 := n7.then m8 (fun _ h => h.elim)
    clear x7 n7 m8
    generalize World.alloc w7 _ = w8 at *
    generalize w7.heap.size = Y at *
    have dx := cells4 x8
    have dy := cells4 y8
    go_wp2_with fail
    go_ret
    exact ⟨rfl, n8⟩
end Go.Proofs.Ytcldbipipehedaa
