/-
  VOTE: New, Add.
-/
import Derived.Test.YtefbdikoichaeaaVt4
import Derived.Deep.RegionLaw
import Derived.Deep.AppendLies
import Derived.IntWalk
namespace Go.Proofs.Ytefbdikoichaeaa
open Go.RowKit
theorem infoBk : (Try.prog.info? 61).map (fun i => (i.zero, i.size, i.bytes)) = some (some (.agg #[.int .u64 0, .complex .f64 0 0]), 2, 24) := by kernel_rfl
theorem run_store_complex (P : Program) (w : World) (a : Addr) (m : Mode) (k : FloatKind) (x y : Nat) : (store a (.complex k x y) m).run P w = stored P w a (.complex k x y) m := run_store P w a _ m rfl
attribute [local go_sem] run_store_complex
theorem fl_zero : fl 0 = 0 := by decide +kernel
theorem new_any (w : World) :
    Calls Try.prog 12 #[] w fun e w' => e = .returned (.pointer (some ⟨w.heap.size + 1, 0, none⟩)) ∧ Tr w' (w.heap.size + 1) w.heap.size 1 [⟨0, 0, 0⟩] ∧ New w w' := by
  go_enter Try.func12, Try.ntmps12
  go_wp2
  go_ret
  have b0 := heap_alloc_new w (.cells #[.int .u64 0, .complex .f64 0 0] 61)
  have b1 := heap_alloc_new (w.alloc (.cells #[.int .u64 0, .complex .f64 0 0] 61)) (.cells #[.slice (some ⟨w.heap.size, 0, none⟩) 1 1] 64)
  have b2 := (heap_alloc_old (w.alloc (.cells #[.int .u64 0, .complex .f64 0 0] 61)) (.cells #[.slice (some ⟨w.heap.size, 0, none⟩) 1 1] 64) (by simp)).trans b0
  refine ⟨rfl, ⟨by simpa using b1, ⟨by simp [rowsV_length], .inr ⟨w.heap.size, 1, _, rfl, Nat.zero_le _, b2, Nat.le_refl _, by decide, rfl, ?_⟩⟩, by omega⟩, New.of_below (by go_grown)⟩
  simp [rowsV, Bl.cells, fl_zero]
theorem Tr.app {w1 w2 : World} {b g cap : Nat} {l : List Bl} {o : Obj} (h : Tr w1 b g cap l) (hg : (w1.alloc o).grownBy w2 (Value.slice (some ⟨g, 0, none⟩) l.length cap).ownBlock) :
    w2.heap[b]? = some (.cells #[.slice (some ⟨g, 0, none⟩) l.length cap] 64 (0, 0)) := by
  have hb := h.lt
  refine (hg.block b (by simp; omega) ?_).trans ((heap_alloc_old w1 o hb).trans h.blk)
  intro e
  simp [Value.ownBlock] at e
  exact h.ne e.symm
theorem Tr.added {w w1 w2 : World} {b g cap g2 cap2 p v : Nat} {l : List Bl} {o : Obj} (h : Tr w b g cap l) (k : New w w1)
    (hown : w2.ownsRow 0 61 2 (.slice (some ⟨g2, 0, none⟩) (l.length + 1) cap2) (l.length + 1) (rowsV l ++ [.int .u64 v, .complex .f64 (fl (ht l p + 1)) (fl p)]))
    (hg : (w1.alloc o).grownBy w2 (Value.slice (some ⟨g, 0, none⟩) l.length cap).ownBlock) (hat : (Value.slice (some ⟨g, 0, none⟩) l.length cap).ownBlock = some g2 ∨ g2 = w1.heap.size + 1) :
    Tr (w2.setCell ⟨b, 0, none⟩ (.slice (some ⟨g2, 0, none⟩) (l.length + 1) cap2)) b g2 cap2 (addB l p v) ∧ Keeps (fun k => k = b ∨ k = g) w (w2.setCell ⟨b, 0, none⟩ (.slice (some ⟨g2, 0, none⟩) (l.length + 1) cap2)) ∧ (g2 = g ∨ w.heap.size ≤ g2) := by
  have hsz := k.size
  have hat2 : g2 = g ∨ w.heap.size ≤ g2 := by
    rcases hat with e | e
    · left; simp [Value.ownBlock] at e; exact e.symm
    · right; omega
  have hne : g2 ≠ b := by
    rcases hat2 with e | e
    · rw [e]; exact h.ne
    · have := h.lt; omega
  have hB := (h.keep k).app hg
  have k2 : Keeps (fun k => k = b ∨ k = g) w w2 := ((k.mono (fun _ _ h => h.elim)).alloc o).grown hg (by
    intro j e
    simp [Value.ownBlock] at e
    exact .inl (.inr e.symm))
  have kS : Keeps (fun k => k = b) w2 (w2.setCell ⟨b, 0, none⟩ (.slice (some ⟨g2, 0, none⟩) (l.length + 1) cap2)) := Keeps.setCell (S := fun k => k = b) (p := ⟨b, 0, none⟩) (Keeps.refl _ _) (.inl rfl) _
  refine ⟨⟨?_, ?_, hne⟩, k2.then kS (fun j e => .inl (.inl e)), hat2⟩
  · rw [heap_setCell_blk hB, addB_length]; simp
  · rw [addB_length, show rowsV (addB l p v) = rowsV l ++ [.int .u64 v, .complex .f64 (fl (ht l p + 1)) (fl p)] by rw [addB, rowsV_append]; rfl]
    refine Keeps.owns kS hown ?_
    intro j e
    simp [Value.ownBlock] at e
    omega
set_option maxHeartbeats 2000000 in
theorem add_ok (b g cap : Nat) (l : List Bl) (p v : Nat) (w : World) (hw : WfT l) (h : Tr w b g cap l) (hp : p < l.length) (hv : vw l p < v) (hl : l.length < 256) :
    Calls Try.prog 15 #[.pointer (some ⟨b, 0, none⟩), .int .i64 p, .int .u64 v] w fun e w' => e = .returned (.tuple #[.int .i64 l.length, .int .i64 0]) ∧
      ∃ g' cap', Tr w' b g' cap' (addB l p v) ∧ Keeps (fun k => k = b ∨ k = g) w w' ∧ (g' = g ∨ w.heap.size ≤ g') := by
  obtain ⟨i0, hi, hz0, hz1, hz2⟩ := info_parts infoBk
  have H := at_in b g cap l p hp w h
  have hc := h.cell
  have ci := h.at p hp
  have hlh := hw.ht_le p hp
  have A1 := fun w => height_any (vw l p) (ht l p) (pr l p) (by omega) w
  have v1 : ∀ w : World, (convert 3 67 (.int .i64 ((ht l p : Int) + 1))).run Try.prog w = .ok (.float .f64 (fl (ht l p + 1))) w := fun w => rfl
  have v0 : IntKind.i64.wrap ((ht l p : Int) + 1) = (ht l p : Int) + 1 := IntWalk.i64_in _ ⟨by omega, by omega⟩
  have v2 : ∀ w : World, (convert 3 67 (.int .i64 (p : Int))).run Try.prog w = .ok (.float .f64 (fl p)) w := fun w => rfl
  have v3 : ∀ w : World, (Builtin.complex_ #[67, 67] 59 #[.float .f64 (fl (ht l p + 1)), .float .f64 (fl p)]).run Try.prog w = .ok (.complex .f64 (fl (ht l p + 1)) (fl p)) w := fun w => rfl
  have e1 : decide (v ≤ vw l p) = false := by simpa using hv
  have e2 : decide ((256 : Int) ≤ (l.length : Int)) = false := by simp; omega
  go_enter Try.func15, Try.ntmps15
  go_wp2_with fail
  refine H.mono ?_
  rintro e w' ⟨rfl, rfl⟩
  go_wp2_with fail
  go_region_law (first
      | (refine step_append_lies _ (by rfl) _ _ _ (by rfl) 0 61 i0 _ 2 24 Try.underlying62 hi hz0 hz1 hz2 rfl (by omega) _ _ (rowsV l) (by rfl) (T1.own.alloc _)
          ⟨w1.heap.size, 0, none⟩ 1 1 [.int .u64 v, .complex .f64 (fl (ht l p + 1)) (fl p)] (by rfl) (by rfl) (World.news_of_block (cs := #[.int .u64 v, .complex .f64 (fl (ht l p + 1)) (fl p)]) (t := 61) (fr := (0, 0)) (heap_alloc_new w1 _)) (by simp [Value.oneCell'])
          (by omega) (by unfold maxLen; omega) (by omega) (Nat.zero_le _) (w1.heap.size + 1) (by simp) ?_; intro g2 cap2 w2 hown2 hgrow hat hlt; have x1 := cell_blk (T1.app hgrow) 0; have x2 := frozen_blk (T1.app hgrow) 0; simp only [List.getElem?_toArray, List.getElem?_cons_zero] at x1)
      | (go_simp; go_at_call 37; refine (A1 _).mono ?_; rintro e w1 ⟨rfl, k1⟩; have n1 := k1.undrew; have T1 := h.keep n1; have lb := T1.lt; have d1 := T1.cell))
  all_goals (
    have HH := h.added n1 hown2 hgrow hat
    generalize World.setCell w2 _ _ = W at *
    have x3 := HH.1.cell
    rw [addB_length] at x3
    clear d1 x1 x2 hown2 hgrow hat
    go_wp2_with fail
    go_ret2
    exact ⟨rfl, _, _, HH⟩)
theorem add_no (b g cap : Nat) (l : List Bl) (p : Int) (v : Nat) (w : World) (h : Tr w b g cap l) (hn : inT l p = false) :
    Calls Try.prog 15 #[.pointer (some ⟨b, 0, none⟩), .int .i64 p, .int .u64 v] w fun e w' => e = .returned (.tuple #[.int .i64 (-1), .int .i64 130]) ∧ w = w' := by
  have H := at_out b g cap l p hn w h
  clear hn
  go_enter Try.func15, Try.ntmps15
  go_wp2_with fail
  refine H.mono ?_
  rintro e w' ⟨rfl, rfl⟩
  go_wp2_with fail
  go_ret2
  exact ⟨rfl, rfl⟩
theorem add_no2 (b g cap : Nat) (l : List Bl) (p : Nat) (v : Nat) (w : World) (h : Tr w b g cap l) (hp : p < l.length) (hn : v ≤ vw l p ∨ 256 ≤ l.length) :
    Calls Try.prog 15 #[.pointer (some ⟨b, 0, none⟩), .int .i64 p, .int .u64 v] w fun e w' => e = .returned (.tuple #[.int .i64 (-1), .int .i64 130]) ∧ w = w' := by
  have H := at_in b g cap l p hp w h
  have hc := h.cell
  have ci := h.at p hp
  by_cases hv : v ≤ vw l p
  · clear hn
    go_enter Try.func15, Try.ntmps15
    go_wp2_with fail
    refine H.mono ?_
    rintro e w' ⟨rfl, rfl⟩
    go_wp2_with fail
    go_ret2
    exact ⟨rfl, rfl⟩
  · have h2 : 256 ≤ l.length := by omega
    have e1 : decide (v ≤ vw l p) = false := by simpa using hv
    have e2 : decide ((256 : Int) ≤ (l.length : Int)) = true := by simp; omega
    clear hn
    go_enter Try.func15, Try.ntmps15
    go_wp2_with fail
    refine H.mono ?_
    rintro e w' ⟨rfl, rfl⟩
    go_wp2_with fail
    go_ret2
    exact ⟨rfl, rfl⟩
end Go.Proofs.Ytefbdikoichaeaa
