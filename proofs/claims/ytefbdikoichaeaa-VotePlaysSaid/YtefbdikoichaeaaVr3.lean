/-
  VOTE: voussoirref13's New, Add.
-/
import Derived.Test.YtefbdikoichaeaaVr2
import Derived.Deep.RegionLaw
import Derived.Deep.AppendLies
import Derived.IntWalk
namespace Go.Proofs.Ytefbdikoichaeaa
open Go.RowKit
theorem infoBd : (Try.prog.info? 69).map (fun i => (i.zero, i.size, i.bytes)) = some (some (.agg #[.int .u64 0, .int .i64 0, .int .i64 0]), 3, 24) := by kernel_rfl
theorem newD (w : World) :
    Calls Try.prog 21 #[] w fun e w' => e = .returned (.pointer (some ⟨w.heap.size + 1, 0, none⟩)) ∧ Td w' (w.heap.size + 1) w.heap.size 1 [⟨0, 0, 0⟩] ∧ New w w' := by
  go_enter Try.func21, Try.ntmps21
  go_wp2
  go_ret
  have b0 := heap_alloc_new w (.cells #[.int .u64 0, .int .i64 0, .int .i64 0] 69)
  have b1 := heap_alloc_new (w.alloc (.cells #[.int .u64 0, .int .i64 0, .int .i64 0] 69)) (.cells #[.slice (some ⟨w.heap.size, 0, none⟩) 1 1] 72)
  have b2 := (heap_alloc_old (w.alloc (.cells #[.int .u64 0, .int .i64 0, .int .i64 0] 69)) (.cells #[.slice (some ⟨w.heap.size, 0, none⟩) 1 1] 72) (by simp)).trans b0
  refine ⟨rfl, ⟨by simpa using b1, ⟨by simp [rowsD_length], .inr ⟨w.heap.size, 1, _, rfl, Nat.zero_le _, b2, Nat.le_refl _, by decide, rfl, ?_⟩⟩, by omega⟩, New.of_below (by go_grown)⟩
  simp [rowsD, Bl.cells3]
theorem Td.app {w1 w2 : World} {b g cap : Nat} {l : List Bl} {o : Obj} (h : Td w1 b g cap l) (hg : (w1.alloc o).grownBy w2 (Value.slice (some ⟨g, 0, none⟩) l.length cap).ownBlock) :
    w2.heap[b]? = some (.cells #[.slice (some ⟨g, 0, none⟩) l.length cap] 72 (0, 0)) := by
  have hb := h.lt
  refine (hg.block b (by simp; omega) ?_).trans ((heap_alloc_old w1 o hb).trans h.blk)
  intro e
  simp [Value.ownBlock] at e
  exact h.ne e.symm
theorem Td.added {w w1 w2 : World} {b g cap g2 cap2 p v : Nat} {l : List Bl} {o : Obj} (h : Td w b g cap l) (k : New w w1)
    (hown : w2.ownsRow 0 69 3 (.slice (some ⟨g2, 0, none⟩) (l.length + 1) cap2) (l.length + 1) (rowsD l ++ [.int .u64 v, .int .i64 p, .int .i64 ((ht l p : Int) + 1)]))
    (hg : (w1.alloc o).grownBy w2 (Value.slice (some ⟨g, 0, none⟩) l.length cap).ownBlock) (hat : (Value.slice (some ⟨g, 0, none⟩) l.length cap).ownBlock = some g2 ∨ g2 = w1.heap.size + 1) :
    Td (w2.setCell ⟨b, 0, none⟩ (.slice (some ⟨g2, 0, none⟩) (l.length + 1) cap2)) b g2 cap2 (addB l p v) ∧ Keeps (fun k => k = b ∨ k = g) w (w2.setCell ⟨b, 0, none⟩ (.slice (some ⟨g2, 0, none⟩) (l.length + 1) cap2)) ∧ (g2 = g ∨ w.heap.size ≤ g2) := by
  have hsz := k.size
  have hat2 : g2 = g ∨ w.heap.size ≤ g2 := by
    rcases hat with e | e
    · left; simp [Value.ownBlock] at e; exact e.symm
    · right; omega
  have hne : g2 ≠ b := by
    rcases hat2 with e | e
    · rw [e]; exact h.ne
    · have := h.lt; omega
  have hB := (h.keep k).app hg
  have k2 : Keeps (fun k => k = b ∨ k = g) w w2 := ((k.mono (fun _ _ h => h.elim)).alloc o).grown hg (by
    intro j e
    simp [Value.ownBlock] at e
    exact .inl (.inr e.symm))
  have kS : Keeps (fun k => k = b) w2 (w2.setCell ⟨b, 0, none⟩ (.slice (some ⟨g2, 0, none⟩) (l.length + 1) cap2)) := Keeps.setCell (S := fun k => k = b) (p := ⟨b, 0, none⟩) (Keeps.refl _ _) (.inl rfl) _
  refine ⟨⟨?_, ?_, hne⟩, k2.then kS (fun j e => .inl (.inl e)), hat2⟩
  · rw [heap_setCell_blk hB, addB_length]; simp
  · rw [addB_length, show rowsD (addB l p v) = rowsD l ++ [.int .u64 v, .int .i64 p, .int .i64 ((ht l p : Int) + 1)] by rw [addB, rowsD_append]; rfl]
    refine Keeps.owns kS hown ?_
    intro j e
    simp [Value.ownBlock] at e
    omega
theorem Td.drew {w : World} {b g cap : Nat} {l : List Bl} (h : Td w b g cap l) : Td w.drew b g cap l := ⟨h.blk, h.own, h.ne⟩
set_option maxHeartbeats 2000000 in
theorem addD_ok (b g cap : Nat) (l : List Bl) (p v : Nat) (w : World) (hw : WfT l) (h : Td w b g cap l) (hp : p < l.length) (hv : vw l p < v) (hl : l.length < 256) :
    Calls Try.prog 22 #[.pointer (some ⟨b, 0, none⟩), .int .i64 p, .int .u64 v] w fun e w' => e = .returned (.tuple #[.int .i64 l.length, .int .i64 0]) ∧
      ∃ g' cap', Td w' b g' cap' (addB l p v) ∧ Keeps (fun k => k = b ∨ k = g) w w' ∧ (g' = g ∨ w.heap.size ≤ g') := by
  obtain ⟨i0, hi, hz0, hz1, hz2⟩ := info_parts infoBd
  have H := hasD b g cap l (p : Nat) w h
  rw [inT_nat hp] at H
  have hc := h.cell
  have ci := h.at p hp
  have hlh := hw.ht_le p hp
  have hp0 : (0 : Int) ≤ (p : Int) := Int.natCast_nonneg _
  have hp1 : (p : Int) < (l.length : Int) := by omega
  have v0 : IntKind.i64.wrap ((ht l p : Int) + 1) = (ht l p : Int) + 1 := IntWalk.i64_in _ ⟨by omega, by omega⟩
  have e1 : decide (v ≤ vw l p) = false := by simpa using hv
  have e2 : decide ((256 : Int) ≤ (l.length : Int)) = false := by simp; omega
  have T1 := h.drew
  have hca : (w.alloc (.cells #[.int .u64 v, .int .i64 p, .int .i64 ((ht l p : Int) + 1)] 69)).cell? ⟨b, 0, none⟩ = some (.slice (some ⟨g, 0, none⟩) l.length cap) := by
    rw [cell_blk ((heap_alloc_old w _ h.lt).trans h.blk)]; rfl
  have n1 : New w w.drew := (New.refl w).drew
  go_enter Try.func22, Try.ntmps22
  go_wp2_with fail
  refine H.mono ?_
  rintro e w' ⟨rfl, rfl⟩
  go_wp2_with fail
  go_region_law (refine step_append_lies _ (by rfl) _ _ _ (by rfl) 0 69 i0 _ 3 24 Try.underlying70 hi hz0 hz1 hz2 rfl (by omega) _ _ (rowsD l) (by rfl) (T1.own.alloc _) ⟨w.heap.size, 0, none⟩ 1 1 [.int .u64 v, .int .i64 p, .int .i64 ((ht l p : Int) + 1)] (by rfl) (by rfl) (World.news_of_block (cs := #[.int .u64 v, .int .i64 p, .int .i64 ((ht l p : Int) + 1)]) (t := 69) (fr := (0, 0)) (heap_alloc_new w.drew _)) (by simp [Value.oneCell']) (by omega) (by unfold maxLen; omega) (by omega) (Nat.zero_le _) (w.heap.size + 1) (by simp) ?_; intro g2 cap2 w2 hown2 hgrow hat hlt; have x1 := cell_blk (T1.app hgrow) 0; have x2 := frozen_blk (T1.app hgrow) 0; simp only [List.getElem?_toArray, List.getElem?_cons_zero] at x1)
  all_goals (
    have HH := h.added n1 hown2 hgrow hat
    generalize World.setCell w2 _ _ = W at *
    have x3 := HH.1.cell
    rw [addB_length] at x3
    clear x1 x2 hown2 hgrow hat
    go_wp2_with fail
    go_ret2
    exact ⟨rfl, _, _, HH⟩)
theorem addD_no (b g cap : Nat) (l : List Bl) (p : Int) (v : Nat) (w : World) (h : Td w b g cap l) (hn : inT l p = false) :
    Calls Try.prog 22 #[.pointer (some ⟨b, 0, none⟩), .int .i64 p, .int .u64 v] w fun e w' => e = .returned (.tuple #[.int .i64 (-1), .int .i64 130]) ∧ w = w' := by
  have H := hasD b g cap l p w h
  rw [hn] at H
  clear hn
  go_enter Try.func22, Try.ntmps22
  go_wp2_with fail
  refine H.mono ?_
  rintro e w' ⟨rfl, rfl⟩
  go_wp2_with fail
  go_ret2
  exact ⟨rfl, rfl⟩
theorem addD_no2 (b g cap : Nat) (l : List Bl) (p : Nat) (v : Nat) (w : World) (h : Td w b g cap l) (hp : p < l.length) (hn : v ≤ vw l p ∨ 256 ≤ l.length) :
    Calls Try.prog 22 #[.pointer (some ⟨b, 0, none⟩), .int .i64 p, .int .u64 v] w fun e w' => e = .returned (.tuple #[.int .i64 (-1), .int .i64 130]) ∧ w = w' := by
  have H := hasD b g cap l (p : Nat) w h
  rw [inT_nat hp] at H
  have hc := h.cell
  have ci := h.at p hp
  have hp0 : (0 : Int) ≤ (p : Int) := Int.natCast_nonneg _
  have hp1 : (p : Int) < (l.length : Int) := by omega
  by_cases h2 : 256 ≤ l.length
  · have e2 : decide ((256 : Int) ≤ (l.length : Int)) = true := by simp; omega
    clear hn
    go_enter Try.func22, Try.ntmps22
    go_wp2_with fail
    refine H.mono ?_
    rintro e w' ⟨rfl, rfl⟩
    go_wp2_with fail
    go_ret2
    exact ⟨rfl, rfl⟩
  · have e2 : decide ((256 : Int) ≤ (l.length : Int)) = false := by simp; omega
    have e1 : decide (v ≤ vw l p) = true := by simp; omega
    clear hn
    go_enter Try.func22, Try.ntmps22
    go_wp2_with fail
    refine H.mono ?_
    rintro e w' ⟨rfl, rfl⟩
    go_wp2_with fail
    go_ret2
    exact ⟨rfl, rfl⟩
end Go.Proofs.Ytefbdikoichaeaa
