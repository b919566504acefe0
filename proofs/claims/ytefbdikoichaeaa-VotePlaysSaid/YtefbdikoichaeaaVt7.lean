/-
  VOTE: After, Commits.
-/
import Derived.Test.YtefbdikoichaeaaVt6
import Derived.RegionTactic
import Derived.Deep.Cut
import Derived.WalkLawsBesides
namespace Go.Proofs.Ytefbdikoichaeaa
open Go.RowKit
theorem blk2_0 (w : World) (a b : Obj) : ((w.alloc a).alloc b).heap[w.heap.size]? = some a := by
  rw [heap_alloc_old _ _ (by simp), heap_alloc_new]
theorem blk2_1 (w : World) (a b : Obj) : ((w.alloc a).alloc b).heap[w.heap.size + 1]? = some b := by
  have := heap_alloc_new (w.alloc a) b
  simpa using this
theorem Keeps.set {w0 w : World} {a : Nat} (h : New w0 w) (ha : w0.heap.size ≤ a) (i : Nat) (x : Value) : New w0 (w.setCell ⟨a, i, none⟩ x) :=
  Keeps.setCell (S := fun _ => False) (p := ⟨a, i, none⟩) h (.inr ha) x
theorem Tr.set {w0 w : World} {b g cap a : Nat} {l : List Bl} (h : Tr w b g cap l) (h0 : Tr w0 b g cap l) (ha : w0.heap.size ≤ a) (i : Nat) (x : Value) : Tr (w.setCell ⟨a, i, none⟩ x) b g cap l := by
  have hg : g < w0.heap.size := by
    rcases h0.own.2 with ⟨e, _⟩ | ⟨g', cap', cur, e, _, hh, _⟩
    · cases e
    · cases e; exact (Array.getElem?_eq_some_iff.1 hh).1
  refine h.keepS (S := fun k => k = a) (Keeps.setCell (S := fun k => k = a) (p := ⟨a, i, none⟩) (Keeps.refl _ _) (.inl rfl) x) ?_ ?_
  · rintro rfl; have := h0.lt; omega
  · rintro rfl; omega
theorem far_blk {w : World} {a b : Nat} {o : Obj} (h : w.heap[b]? = some o) (hab : b ≠ a) (i : Nat) (x : Value) : (w.setCell ⟨a, i, none⟩ x).heap[b]? = some o :=
  (Below.heap_setCell w ⟨a, i, none⟩ x b hab).trans h
set_option maxHeartbeats 4000000 in
theorem after_in (b g cap : Nat) (l : List Bl) (voted : Nat) (lock : Int) (n : Nat) (hn : n < l.length) (w : World) (hw : WfT l) (h : Tr w b g cap l) :
    Calls Try.prog 27 #[.pointer (some ⟨b, 0, none⟩), .agg #[.int .u64 voted, .int .i64 lock], .int .i64 n] w fun e w' => e = .returned (.agg #[.int .u64 (max voted (vw l n) : Nat), .int .i64 (aftL l lock n)]) ∧ New w w' := by
  have H1 := at_in b g cap l n hn
  have hl := hw.len
  have hp := hw.pr_lt hn
  have hq := hw.pr_lt hp
  have hgp := gpI_nat hw hn
  have A1 := fun w => parent_any (vw l n) (ht l n) (pr l n) (by omega) w
  have A2 := fun w => parent_any (vw l (pr l n)) (ht l (pr l n)) (pr l (pr l n)) (by omega) w
  have H2 := at_in b g cap l (pr l n) hp
  have H3 := at_any b g cap l lock
  have H4 := fun w h => view_any b g cap l (pr l (pr l n) : Nat) w h
  rw [viewI_nat hq] at H4
  have hmax : (if voted < vw l n then (vw l n : Int) else voted) = ((max voted (vw l n) : Nat) : Int) := by split <;> omega
  go_enter Try.func27, Try.ntmps27
  go_wp2_with fail
  have bV := blk2_0 w (.cells #[.int .u64 voted, .int .i64 lock] 43) (.cells #[.int .u64 0, .int .i64 0] 43)
  have bR := blk2_1 w (.cells #[.int .u64 voted, .int .i64 lock] 43) (.cells #[.int .u64 0, .int .i64 0] 43)
  have n0 : New w ((w.alloc (.cells #[.int .u64 voted, .int .i64 lock] 43)).alloc (.cells #[.int .u64 0, .int .i64 0] 43)) := ((New.refl w).alloc _).alloc _
  have hVR : w.heap.size ≠ w.heap.size + 1 := by omega
  generalize (w.alloc _).alloc _ = W at *
  have hV0 : w.heap.size ≤ w.heap.size := Nat.le_refl _
  have hR0 : w.heap.size ≤ w.heap.size + 1 := by omega
  revert hV0 hR0
  generalize hR : w.heap.size + 1 = R at *
  generalize hV : w.heap.size = V at *
  intro hV0 hR0
  have hV1 : w.heap.size ≤ V := by omega
  have hR1 : w.heap.size ≤ R := by omega
  clear hR hV hV0 hR0
  have T0 := h.keep n0
  refine (H1 _ T0).mono ?_
  rintro e w' ⟨rfl, rfl⟩
  have dV := cells2 bV
  have d := T0.at n hn
  have HM := Lib.hid hmax
  clear hmax H1
  go_wp2_with fail
  go_region
  rw [HM.out]
  obtain ⟨M, hM⟩ : ∃ M, M = max voted (vw l n) := ⟨_, rfl⟩
  rw [← hM]
  have HM2 := Lib.hid hM
  clear hM
  have n1 : New w (W.setCell ⟨V, 0, none⟩ (.int .u64 (M : Int))).drew := (n0.set hV1 0 _).drew
  have T1 : Tr (W.setCell ⟨V, 0, none⟩ (.int .u64 (M : Int))).drew b g cap l := (T0.set h hV1 0 _).drew
  have bV1 : (W.setCell ⟨V, 0, none⟩ (.int .u64 (M : Int))).drew.heap[V]? = some (.cells #[.int .u64 (M : Int), .int .i64 lock] 43 (0, 0)) := (heap_setCell_blk bV 0 _).trans (by simp)
  have bR1 : (W.setCell ⟨V, 0, none⟩ (.int .u64 (M : Int))).drew.heap[R]? = some (.cells #[.int .u64 0, .int .i64 0] 43 (0, 0)) := far_blk bR (Ne.symm hVR) 0 _
  generalize World.drew (World.setCell W _ _) = W1 at *
  clear HM dV d T0 n0 bV bR W
  have d := T1.at n hn
  go_wp2_with fail
  refine (A1 _).mono ?_
  rintro e w2 ⟨rfl, k2⟩
  have n2 := n1.then k2 (fun _ h => h.elim)
  have T2 := T1.keep k2
  have bV2 := k2.kept bV1 (fun h => h)
  have bR2 := k2.kept bR1 (fun h => h)
  clear n1 T1 bV1 bR1 k2 d A1
  go_wp2_with fail
  refine (H2 _ T2).mono ?_
  rintro e w' ⟨rfl, rfl⟩
  have d := T2.at _ hp
  go_wp2_with fail
  refine (A2 _).mono ?_
  rintro e w3 ⟨rfl, k3⟩
  have n3 := n2.then k3 (fun _ h => h.elim)
  have T3 := T2.keep k3
  have bV3 := k3.kept bV2 (fun h => h)
  have bR3 := k3.kept bR2 (fun h => h)
  clear n2 T2 bV2 bR2 k3 d A2 H2
  have dV := cells2 bV3
  go_wp2_with fail
  refine (H3 _ T3).mono ?_
  rintro e w' ⟨rfl, rfl⟩
  have HG := Lib.hid hgp
  clear hgp
  rcases hk : inT l lock with _ | _
  · have ha := atV_out g hk
    have HE : Hid (aftL l lock n = (pr l (pr l n) : Nat)) := by
      unfold aftL; rw [inT_nat hn, hk, HG.out]; simp; exact trivial
    rw [ha]
    clear ha hk
    go_wp2_with fail
    go_quiet (fail)
    have n4 := n3.drewN nq
    have bV4 : (w3.drewN nq).heap[V]? = _ := bV3
    have bR4 : (w3.drewN nq).heap[R]? = _ := bR3
    generalize World.drewN w3 nq = w4 at *
    clear n3 bV3 bR3 T3 dV H3 H4
    have dV := cells2 bV4
    have n5 := n4.set hV1 1 (.int .i64 (pr l (pr l n) : Nat))
    have bV5 := (heap_setCell_blk bV4 1 (.int .i64 (pr l (pr l n) : Nat))).trans (show _ = some (.cells #[.int .u64 (M : Int), .int .i64 (pr l (pr l n) : Nat)] 43 (0, 0)) by simp)
    have bR5 := far_blk bR4 (Ne.symm hVR) 1 (.int .i64 (pr l (pr l n) : Nat))
    go_upto_region 9 with (fail)
    generalize World.setCell w4 _ _ = w5 at *
    have dV5 := cells2 bV5
    have dR5 := cells2 bR5
    go_wp2_with fail
    have n6 := (n5.set hR1 0 (.int .u64 (M : Int))).set hR1 1 (.int .i64 (pr l (pr l n) : Nat))
    have bR6 := (heap_setCell_blk (heap_setCell_blk bR5 0 (.int .u64 (M : Int))) 1 (.int .i64 (pr l (pr l n) : Nat))).trans (show _ = some (.cells #[.int .u64 (M : Int), .int .i64 (pr l (pr l n) : Nat)] 43 (0, 0)) by simp)
    generalize World.setCell (World.setCell w5 _ _) _ _ = w6 at *
    have dR6 := cells2 bR6
    exact bodyPost_ret (v := .agg #[.int .u64 (M : Int), .int .i64 (pr l (pr l n) : Nat)]) (by simp [results, Try.results27, go_sem, dR6]) rfl ⟨by rw [HE.out, HM2.out], n6⟩
  · obtain ⟨k, rfl, hk'⟩ := inT_iff hk
    have ha := atV_in g hk'
    clear hk
    rw [ha]
    clear ha
    have dk := T3.at k hk'
    by_cases hlt : vw l k < vw l (pr l (pr l n))
    · have HE : Hid (aftL l k n = (pr l (pr l n) : Nat)) := by
        rw [Hid]; rw [aftL_nat hw hk' hn]; unfold lkN; rw [if_pos hlt]
      have hd : decide (vw l k < vw l (pr l (pr l n))) = true := by simp [hlt]
      go_wp2_with fail
      have HQ := fun m => quiet_left (H4 (w3.drewN m) (T3.drewN m))
      go_quiet ((go_at_call 16; with_reducible exact HQ _))
      clear HQ
      have n4 := n3.drewN nq
      have bV4 : (w3.drewN nq).heap[V]? = _ := bV3
      have bR4 : (w3.drewN nq).heap[R]? = _ := bR3
      generalize World.drewN w3 nq = w4 at *
      clear dk n3 bV3 bR3 T3 dV H3 H4
      have dV := cells2 bV4
      have n5 := n4.set hV1 1 (.int .i64 (pr l (pr l n) : Nat))
      have bV5 := (heap_setCell_blk bV4 1 (.int .i64 (pr l (pr l n) : Nat))).trans (show _ = some (.cells #[.int .u64 (M : Int), .int .i64 (pr l (pr l n) : Nat)] 43 (0, 0)) by simp)
      have bR5 := far_blk bR4 (Ne.symm hVR) 1 (.int .i64 (pr l (pr l n) : Nat))
      go_upto_region 9 with (fail)
      generalize World.setCell w4 _ _ = w5 at *
      have dV5 := cells2 bV5
      have dR5 := cells2 bR5
      go_wp2_with fail
      have n6 := (n5.set hR1 0 (.int .u64 (M : Int))).set hR1 1 (.int .i64 (pr l (pr l n) : Nat))
      have bR6 := (heap_setCell_blk (heap_setCell_blk bR5 0 (.int .u64 (M : Int))) 1 (.int .i64 (pr l (pr l n) : Nat))).trans (show _ = some (.cells #[.int .u64 (M : Int), .int .i64 (pr l (pr l n) : Nat)] 43 (0, 0)) by simp)
      generalize World.setCell (World.setCell w5 _ _) _ _ = w6 at *
      have dR6 := cells2 bR6
      exact bodyPost_ret (v := .agg #[.int .u64 (M : Int), .int .i64 (pr l (pr l n) : Nat)]) (by simp [results, Try.results27, go_sem, dR6]) rfl ⟨by rw [HE.out, HM2.out], n6⟩
    · have HE : Hid (aftL l k n = (k : Nat)) := by
        rw [Hid]; rw [aftL_nat hw hk' hn]; unfold lkN; rw [if_neg hlt]
      have hd : decide (vw l k < vw l (pr l (pr l n))) = false := by simp [hlt]
      go_wp2_with fail
      have HQ := fun m => quiet_left (H4 (w3.drewN m) (T3.drewN m))
      go_quiet ((go_at_call 16; with_reducible exact HQ _))
      clear HQ
      have n4 := n3.drewN nq
      have bV4 : (w3.drewN nq).heap[V]? = _ := bV3
      have bR4 : (w3.drewN nq).heap[R]? = _ := bR3
      generalize World.drewN w3 nq = w4 at *
      clear dk n3 bV3 bR3 T3 dV H3 H4
      have dV := cells2 bV4
      have dR := cells2 bR4
      go_wp2_with fail
      have n6 := (n4.set hR1 0 (.int .u64 (M : Int))).set hR1 1 (.int .i64 k)
      have bR6 := (heap_setCell_blk (heap_setCell_blk bR4 0 (.int .u64 (M : Int))) 1 (.int .i64 k)).trans (show _ = some (.cells #[.int .u64 (M : Int), .int .i64 (k : Int)] 43 (0, 0)) by simp)
      generalize World.setCell (World.setCell w4 _ _) _ _ = w6 at *
      have dR6 := cells2 bR6
      exact bodyPost_ret (v := .agg #[.int .u64 (M : Int), .int .i64 k]) (by simp [results, Try.results27, go_sem, dR6]) rfl ⟨by rw [HE.out, HM2.out], n6⟩
end Go.Proofs.Ytefbdikoichaeaa
