/-
  VOTE: voussoirref13's After.
-/
import Derived.Test.YtefbdikoichaeaaVr5
import Derived.RegionTactic
import Derived.Deep.Cut
import Derived.WalkLawsBesides
namespace Go.Proofs.Ytefbdikoichaeaa
open Go.RowKit
theorem Td.set {w w0 : World} {b g cap a : Nat} {l : List Bl} (h : Td w b g cap l) (h0 : Td w0 b g cap l) (ha : w0.heap.size ≤ a) (i : Nat) (x : Value) : Td (w.setCell ⟨a, i, none⟩ x) b g cap l := by
  have hg : g < w0.heap.size := by
    rcases h0.own.2 with ⟨e, _⟩ | ⟨g', cap', cur, e, _, hh, _⟩
    · cases e
    · cases e; exact (Array.getElem?_eq_some_iff.1 hh).1
  refine h.keepS (S := fun k => k = a) (Keeps.setCell (S := fun k => k = a) (p := ⟨a, i, none⟩) (Keeps.refl _ _) (.inl rfl) x) ?_ ?_
  · rintro rfl; have := h0.lt; omega
  · rintro rfl; omega
set_option maxHeartbeats 4000000 in
theorem afterD_in (b g cap : Nat) (l : List Bl) (voted : Nat) (lock : Int) (n : Nat) (hn : n < l.length) (w : World) (hw : WfT l) (h : Td w b g cap l) :
    Calls Try.prog 28 #[.pointer (some ⟨b, 0, none⟩), .agg #[.int .u64 voted, .int .i64 lock], .int .i64 n] w fun e w' => e = .returned (.agg #[.int .u64 (max voted (vw l n) : Nat), .int .i64 (aftL l lock n)]) ∧ New w w' := by
  have H1 := fun w h => hasD b g cap l (n : Nat) w h
  rw [inT_nat hn] at H1
  have hp := hw.pr_lt hn
  have hq := hw.pr_lt hp
  have hgp := gpI_nat hw hn
  have H3 := fun w h => hasD b g cap l lock w h
  have H4 := fun w h => viewD b g cap l (pr l (pr l n) : Nat) w h
  rw [viewI_nat hq] at H4
  have hn0 : (0 : Int) ≤ (n : Int) := Int.natCast_nonneg _
  have hn1 : (n : Int) < (l.length : Int) := by omega
  have hp0 : (0 : Int) ≤ (pr l n : Int) := Int.natCast_nonneg _
  have hp1 : (pr l n : Int) < (l.length : Int) := by omega
  have hmax : (if voted < vw l n then (vw l n : Int) else voted) = ((max voted (vw l n) : Nat) : Int) := by split <;> omega
  go_enter Try.func28, Try.ntmps28
  go_wp2_with fail
  have bV := blk2_0 w (.cells #[.int .u64 voted, .int .i64 lock] 43) (.cells #[.int .u64 0, .int .i64 0] 43)
  have bR := blk2_1 w (.cells #[.int .u64 voted, .int .i64 lock] 43) (.cells #[.int .u64 0, .int .i64 0] 43)
  have n0 : New w ((w.alloc (.cells #[.int .u64 voted, .int .i64 lock] 43)).alloc (.cells #[.int .u64 0, .int .i64 0] 43)) := ((New.refl w).alloc _).alloc _
  have hVR : w.heap.size ≠ w.heap.size + 1 := by omega
  generalize (w.alloc _).alloc _ = W at *
  have hV0 : w.heap.size ≤ w.heap.size := Nat.le_refl _
  have hR0 : w.heap.size ≤ w.heap.size + 1 := by omega
  revert hV0 hR0
  generalize hR : w.heap.size + 1 = R at *
  generalize hV : w.heap.size = V at *
  intro hV0 hR0
  have hV1 : w.heap.size ≤ V := by omega
  have hR1 : w.heap.size ≤ R := by omega
  clear hR hV hV0 hR0
  have T0 := h.keep n0
  refine (H1 _ T0).mono ?_
  rintro e w' ⟨rfl, rfl⟩
  have dV := cells2 bV
  have d := T0.three hn
  have HM := Lib.hid hmax
  clear hmax H1
  go_wp2_with fail
  go_region
  rw [HM.out]
  obtain ⟨M, hM⟩ : ∃ M, M = max voted (vw l n) := ⟨_, rfl⟩
  rw [← hM]
  have HM2 := Lib.hid hM
  clear hM
  have n1 : New w (W.setCell ⟨V, 0, none⟩ (.int .u64 (M : Int))).drew := (n0.set hV1 0 _).drew
  have T1 : Td (W.setCell ⟨V, 0, none⟩ (.int .u64 (M : Int))).drew b g cap l := (T0.set h hV1 0 _).drew
  have bV1 : (W.setCell ⟨V, 0, none⟩ (.int .u64 (M : Int))).drew.heap[V]? = some (.cells #[.int .u64 (M : Int), .int .i64 lock] 43 (0, 0)) := (heap_setCell_blk bV 0 _).trans (by simp)
  have bR1 : (W.setCell ⟨V, 0, none⟩ (.int .u64 (M : Int))).drew.heap[R]? = some (.cells #[.int .u64 0, .int .i64 0] 43 (0, 0)) := far_blk bR (Ne.symm hVR) 0 _
  generalize World.drew (World.setCell W _ _) = W1 at *
  clear HM dV d T0 n0 bV bR W
  have d := T1.three hn
  have d1 := T1.three hp
  have dV := cells2 bV1
  go_wp2_with fail
  go_quiet (fail)
  have n2 := n1.drewN nq
  have T2 := T1.drewN nq
  have bV2 : (W1.drewN nq).heap[V]? = _ := bV1
  have bR2 : (W1.drewN nq).heap[R]? = _ := bR1
  generalize World.drewN W1 nq = w3 at *
  clear d d1 dV n1 T1 bV1 bR1 W1
  have dV := cells2 bV2
  go_wp2_with fail
  refine (H3 _ T2).mono ?_
  rintro e w' ⟨rfl, rfl⟩
  have HG := Lib.hid hgp
  clear hgp hp0 hp1 hn0 hn1
  rcases hk : inT l lock with _ | _
  · have HE : Hid (aftL l lock n = (pr l (pr l n) : Nat)) := by
      unfold aftL; rw [inT_nat hn, hk, HG.out]; simp; exact trivial
    clear hk
    go_wp2_with fail
    go_quiet (fail)
    have n4 := n2.drewN nq
    have bV4 : (w3.drewN nq).heap[V]? = _ := bV2
    have bR4 : (w3.drewN nq).heap[R]? = _ := bR2
    generalize World.drewN w3 nq = w4 at *
    clear n2 bV2 bR2 T2 dV H3 H4
    have dV := cells2 bV4
    have n5 := n4.set hV1 1 (.int .i64 (pr l (pr l n) : Nat))
    have bV5 := (heap_setCell_blk bV4 1 (.int .i64 (pr l (pr l n) : Nat))).trans (show _ = some (.cells #[.int .u64 (M : Int), .int .i64 (pr l (pr l n) : Nat)] 43 (0, 0)) by simp)
    have bR5 := far_blk bR4 (Ne.symm hVR) 1 (.int .i64 (pr l (pr l n) : Nat))
    go_upto_region 9 with (fail)
    generalize World.setCell w4 _ _ = w5 at *
    have dV5 := cells2 bV5
    have dR5 := cells2 bR5
    go_wp2_with fail
    have n6 := (n5.set hR1 0 (.int .u64 (M : Int))).set hR1 1 (.int .i64 (pr l (pr l n) : Nat))
    have bR6 := (heap_setCell_blk (heap_setCell_blk bR5 0 (.int .u64 (M : Int))) 1 (.int .i64 (pr l (pr l n) : Nat))).trans (show _ = some (.cells #[.int .u64 (M : Int), .int .i64 (pr l (pr l n) : Nat)] 43 (0, 0)) by simp)
    generalize World.setCell (World.setCell w5 _ _) _ _ = w6 at *
    have dR6 := cells2 bR6
    exact bodyPost_ret (v := .agg #[.int .u64 (M : Int), .int .i64 (pr l (pr l n) : Nat)]) (by simp [results, Try.results28, go_sem, dR6]) rfl ⟨by rw [HE.out, HM2.out], n6⟩
  · obtain ⟨k, rfl, hk'⟩ := inT_iff hk
    have H5 := fun w h => viewD b g cap l (k : Nat) w h
    rw [viewI_nat hk'] at H5
    clear hk
    by_cases hlt : vw l k < vw l (pr l (pr l n))
    · have HE : Hid (aftL l k n = (pr l (pr l n) : Nat)) := by
        rw [Hid]; rw [aftL_nat hw hk' hn]; unfold lkN; rw [if_pos hlt]
      have hd : decide (vw l k < vw l (pr l (pr l n))) = true := by simp [hlt]
      go_wp2_with fail
      have HQ := fun m => quiet_left (H4 (w3.drewN m) (T2.drewN m))
      have HQ2 := fun m => quiet_left (H5 (w3.drewN m) (T2.drewN m))
      go_quiet ((go_at_call 24; first | with_reducible exact HQ _ | with_reducible exact HQ2 _))
      clear HQ HQ2 H5
      have n4 := n2.drewN nq
      have bV4 : (w3.drewN nq).heap[V]? = _ := bV2
      have bR4 : (w3.drewN nq).heap[R]? = _ := bR2
      generalize World.drewN w3 nq = w4 at *
      clear n2 bV2 bR2 T2 dV H3 H4
      have dV := cells2 bV4
      have n5 := n4.set hV1 1 (.int .i64 (pr l (pr l n) : Nat))
      have bV5 := (heap_setCell_blk bV4 1 (.int .i64 (pr l (pr l n) : Nat))).trans (show _ = some (.cells #[.int .u64 (M : Int), .int .i64 (pr l (pr l n) : Nat)] 43 (0, 0)) by simp)
      have bR5 := far_blk bR4 (Ne.symm hVR) 1 (.int .i64 (pr l (pr l n) : Nat))
      go_upto_region 9 with (fail)
      generalize World.setCell w4 _ _ = w5 at *
      have dV5 := cells2 bV5
      have dR5 := cells2 bR5
      go_wp2_with fail
      have n6 := (n5.set hR1 0 (.int .u64 (M : Int))).set hR1 1 (.int .i64 (pr l (pr l n) : Nat))
      have bR6 := (heap_setCell_blk (heap_setCell_blk bR5 0 (.int .u64 (M : Int))) 1 (.int .i64 (pr l (pr l n) : Nat))).trans (show _ = some (.cells #[.int .u64 (M : Int), .int .i64 (pr l (pr l n) : Nat)] 43 (0, 0)) by simp)
      generalize World.setCell (World.setCell w5 _ _) _ _ = w6 at *
      have dR6 := cells2 bR6
      exact bodyPost_ret (v := .agg #[.int .u64 (M : Int), .int .i64 (pr l (pr l n) : Nat)]) (by simp [results, Try.results28, go_sem, dR6]) rfl ⟨by rw [HE.out, HM2.out], n6⟩
    · have HE : Hid (aftL l k n = (k : Nat)) := by
        rw [Hid]; rw [aftL_nat hw hk' hn]; unfold lkN; rw [if_neg hlt]
      have hd : decide (vw l k < vw l (pr l (pr l n))) = false := by simp [hlt]
      go_wp2_with fail
      have HQ := fun m => quiet_left (H4 (w3.drewN m) (T2.drewN m))
      have HQ2 := fun m => quiet_left (H5 (w3.drewN m) (T2.drewN m))
      go_quiet ((go_at_call 24; first | with_reducible exact HQ _ | with_reducible exact HQ2 _))
      clear HQ HQ2 H5
      have n4 := n2.drewN nq
      have bV4 : (w3.drewN nq).heap[V]? = _ := bV2
      have bR4 : (w3.drewN nq).heap[R]? = _ := bR2
      generalize World.drewN w3 nq = w4 at *
      clear n2 bV2 bR2 T2 dV H3 H4
      have dV := cells2 bV4
      have dR := cells2 bR4
      go_wp2_with fail
      have n6 := (n4.set hR1 0 (.int .u64 (M : Int))).set hR1 1 (.int .i64 k)
      have bR6 := (heap_setCell_blk (heap_setCell_blk bR4 0 (.int .u64 (M : Int))) 1 (.int .i64 k)).trans (show _ = some (.cells #[.int .u64 (M : Int), .int .i64 (k : Int)] 43 (0, 0)) by simp)
      generalize World.setCell (World.setCell w4 _ _) _ _ = w6 at *
      have dR6 := cells2 bR6
      exact bodyPost_ret (v := .agg #[.int .u64 (M : Int), .int .i64 k]) (by simp [results, Try.results28, go_sem, dR6]) rfl ⟨by rw [HE.out, HM2.out], n6⟩
set_option maxHeartbeats 2000000 in
theorem afterD_out (b g cap : Nat) (l : List Bl) (voted : Nat) (lock i : Int) (hi : inT l i = false) (w : World) (h : Td w b g cap l) :
    Calls Try.prog 28 #[.pointer (some ⟨b, 0, none⟩), .agg #[.int .u64 voted, .int .i64 lock], .int .i64 i] w fun e w' => e = .returned (.agg #[.int .u64 voted, .int .i64 lock]) ∧ New w w' := by
  have H1 := fun w h => hasD b g cap l i w h
  rw [hi] at H1
  clear hi
  go_enter Try.func28, Try.ntmps28
  go_wp2_with fail
  have bV := blk2_0 w (.cells #[.int .u64 voted, .int .i64 lock] 43) (.cells #[.int .u64 0, .int .i64 0] 43)
  have bR := blk2_1 w (.cells #[.int .u64 voted, .int .i64 lock] 43) (.cells #[.int .u64 0, .int .i64 0] 43)
  have n0 : New w ((w.alloc (.cells #[.int .u64 voted, .int .i64 lock] 43)).alloc (.cells #[.int .u64 0, .int .i64 0] 43)) := ((New.refl w).alloc _).alloc _
  generalize (w.alloc _).alloc _ = W at *
  have hR0 : w.heap.size ≤ w.heap.size + 1 := by omega
  revert hR0
  generalize hR : w.heap.size + 1 = R at *
  generalize hV : w.heap.size = V at *
  intro hR0
  have hR1 : w.heap.size ≤ R := by omega
  clear hR hV hR0
  have T0 := h.keep n0
  refine (H1 _ T0).mono ?_
  rintro e w' ⟨rfl, rfl⟩
  have dV := cells2 bV
  have dR := cells2 bR
  go_wp2_with fail
  have n6 := (n0.set hR1 0 (.int .u64 (voted : Int))).set hR1 1 (.int .i64 lock)
  have bR6 := (heap_setCell_blk (heap_setCell_blk bR 0 (.int .u64 (voted : Int))) 1 (.int .i64 lock)).trans (show _ = some (.cells #[.int .u64 (voted : Int), .int .i64 lock] 43 (0, 0)) by simp)
  generalize World.setCell (World.setCell W _ _) _ _ = w6 at *
  have dR6 := cells2 bR6
  exact bodyPost_ret (v := .agg #[.int .u64 (voted : Int), .int .i64 lock]) (by simp [results, Try.results28, go_sem, dR6]) rfl ⟨rfl, n6⟩
theorem afterD (b g cap : Nat) (l : List Bl) (voted : Nat) (lock i : Int) (w : World) (hw : WfT l) (h : Td w b g cap l) :
    Calls Try.prog 28 #[.pointer (some ⟨b, 0, none⟩), .agg #[.int .u64 voted, .int .i64 lock], .int .i64 i] w fun e w' => e = .returned (.agg #[.int .u64 (aftV l voted i), .int .i64 (aftL l lock i)]) ∧ New w w' := by
  rcases hi : inT l i with _ | _
  · rw [show aftV l voted i = voted by unfold aftV; rw [hi]; rfl, show aftL l lock i = lock by unfold aftL; rw [hi]; simp]
    exact afterD_out b g cap l voted lock i hi w h
  · obtain ⟨n, rfl, hn⟩ := inT_iff hi
    rw [aftV_nat hn]
    exact afterD_in b g cap l voted lock n hn w hw h
end Go.Proofs.Ytefbdikoichaeaa
