/-
  WALKS: the bank's Send, Copy.
-/
import Derived.Test.YtcldbipipehedaaBk5
namespace Go.Proofs.Ytcldbipipehedaa
open Go.RowKit Go.ChangeMaps

set_option maxHeartbeats 4000000 in
set_option maxRecDepth 100000 in
theorem send_any (b mb ms n : Nat) (s : BkS) (a c d : List UInt8) (v : Nat) (hv : U64 v) (hn : n ≤ 1000000) (w : World) (h : Bk w b mb ms n s) :
    Calls Try.prog 37 #[.pointer (some ⟨b, 0, none⟩), .string ⟨a.toArray⟩, .string ⟨c.toArray⟩, .string ⟨d.toArray⟩, .int .u64 v] w fun e w' => e = .returned (.int .i64 (sendE s a c d v)) ∧ Bk w' b mb ms (n + 2) (sendS s a c d v) ∧ Keeps (Two mb ms) w w' := by
  have n1 : New w (w.alloc (.cells #[.string ⟨a.toArray⟩, .string ⟨c.toArray⟩] 9)) := (New.refl w).alloc _
  have h1 := h.keep n1
  have hs := strs_new w [a, c] 9
  have CK := check_any v d [a, c] 2 w.heap.size 2 rfl (by omega) (w.alloc (.cells #[.string ⟨a.toArray⟩, .string ⟨c.toArray⟩] 9)) hs
  have k1 : Keeps (Two mb ms) w (w.alloc (.cells #[.string ⟨a.toArray⟩, .string ⟨c.toArray⟩] 9)) := (Keeps.refl _ w).alloc _
  by_cases hc : chkE v d [a, c] = 0
  · obtain ⟨-, hd1, hd2, hac⟩ := chk_zero hc
    have ha := (hac a (by simp)).2
    have hcc := (hac c (by simp)).2
    have hE : sendE s a c d v = if s.bal d a < v then 102 else 0 := by unfold sendE; rw [if_pos hc]
    rw [hc] at CK
    have ha9 : a.length ≤ maxLen := by unfold maxLen; omega
    have hc9 : c.length ≤ maxLen := by unfold maxLen; omega
    have hd9 : d.length ≤ maxLen := by unfold maxLen; omega
    clear hs n1 h hac
    go_enter Try.func37, Try.ntmps37
    go_wp2_with fail
    generalize World.alloc w _ = W at *
    generalize w.heap.size = G at *
    refine CK.mono ?_
    rintro e w' ⟨rfl, rfl⟩
    clear CK
    go_upto_region 5 with (fail)
    have n2 : New W (W.alloc (.cells #[.string ⟨d.toArray⟩, .string ⟨a.toArray⟩] 91)) := (New.refl W).alloc _
    have n3 : New (W.alloc (.cells #[.string ⟨d.toArray⟩, .string ⟨a.toArray⟩] 91)) ((W.alloc (.cells #[.string ⟨d.toArray⟩, .string ⟨a.toArray⟩] 91)).alloc (.cells #[.string ⟨d.toArray⟩, .string ⟨c.toArray⟩] 91)) := (New.refl _).alloc _
    have q2 : plc ((W.alloc (.cells #[.string ⟨d.toArray⟩, .string ⟨a.toArray⟩] 91)).alloc (.cells #[.string ⟨d.toArray⟩, .string ⟨c.toArray⟩] 91)) W.heap.size d a := n3.kept (heap_alloc_new W _) (fun h => h)
    have r2 : plc ((W.alloc (.cells #[.string ⟨d.toArray⟩, .string ⟨a.toArray⟩] 91)).alloc (.cells #[.string ⟨d.toArray⟩, .string ⟨c.toArray⟩] 91)) (W.heap.size + 1) d c := by
      have := heap_alloc_new (W.alloc (.cells #[.string ⟨d.toArray⟩, .string ⟨a.toArray⟩] 91)) (.cells #[.string ⟨d.toArray⟩, .string ⟨c.toArray⟩] 91)
      simp only [World.size_alloc] at this
      exact this
    have h2 := (h1.keep n2).keep n3
    have k2 : Keeps (Two mb ms) w ((W.alloc (.cells #[.string ⟨d.toArray⟩, .string ⟨a.toArray⟩] 91)).alloc (.cells #[.string ⟨d.toArray⟩, .string ⟨c.toArray⟩] 91)) := (k1.alloc _).alloc _
    clear h1 n2 n3 k1
    generalize (W.alloc _).alloc _ = W2 at *
    generalize W.heap.size + 1 = Q2 at *
    generalize W.heap.size = Q at *
    clear W
    have hL5 := h2.drew.mp.look hd9 ha9
    unfold plV at hL5
    have S5 : W2.drew.cell? ⟨b, 0, none⟩ = some (.map (some mb)) ∧ W2.drew.cell? ⟨Q, 0, none⟩ = some (.string ⟨d.toArray⟩) ∧ W2.drew.cell? ⟨Q, 1, none⟩ = some (.string ⟨a.toArray⟩) := ⟨h2.drew.cells.1, q2.cells.1, q2.cells.2⟩
    by_cases ho : s.bal d a < v
    · have HR : Hid (sendE s a c d v = 102) := by rw [Hid, hE, if_pos ho]
      have HS : Hid (sendS s a c d v = s) := by rw [Hid]; unfold sendS; rw [HR.out]; rfl
      have eo : decide (s.bal d a < v) = true := decide_eq_true ho
      clear hE hc ho
      generalize s.bal d a = x at *
      go_wp2_with fail
      refine wp_region_held_drew (S := (fun w' => w'.cell? ⟨b, 0, none⟩ = some (.map (some mb)) ∧ w'.cell? ⟨Q, 0, none⟩ = some (.string ⟨d.toArray⟩) ∧ w'.cell? ⟨Q, 1, none⟩ = some (.string ⟨a.toArray⟩))) (by kernel_rfl) ?_ (fun hHeld => ?_)
      · exact S5
      refine wpAnyH_take (i := 0) (oi := ⟨some 29, _, _, _, _, _⟩) (v := ?_) rfl (by kernel_rfl) (by kernel_rfl) (by kernel_rfl) (fun _ _ _ h => h) (Or.inl ⟨by rfl, ?_⟩) (by assumption) ?_
      rotate_left
      · (intro wq hSw; (try dsimp only at hSw); go_simp; try with_reducible rfl)
      try simp only [Act.put, List.setIfInBounds_toArray, List.set_cons_zero, List.set_cons_succ]
      refine wpAnyH_take (i := 1) (oi := ⟨some 30, _, _, _, _, _⟩) (v := ?_) rfl (by kernel_rfl) (by kernel_rfl) (by kernel_rfl) (fun _ _ _ h => h) (Or.inl ⟨by rfl, ?_⟩) (by assumption) ?_
      rotate_left
      · (intro wq hSw; (try dsimp only at hSw); go_simp; try with_reducible rfl)
      try simp only [Act.put, List.setIfInBounds_toArray, List.set_cons_zero, List.set_cons_succ]
      refine wpAnyH_take (i := 2) (oi := ⟨some 31, _, _, _, _, _⟩) (v := ?_) rfl (by kernel_rfl) (by kernel_rfl) (by kernel_rfl) (fun _ _ _ h => h) (Or.inl ⟨by rfl, ?_⟩) (by assumption) ?_
      rotate_left
      · (intro wq hSw; (try dsimp only at hSw); go_simp; try with_reducible rfl)
      try simp only [Act.put, List.setIfInBounds_toArray, List.set_cons_zero, List.set_cons_succ]
      refine wpAnyH_take (i := 3) (oi := ⟨some 32, _, _, _, _, _⟩) (v := ?_) rfl (by kernel_rfl) (by kernel_rfl) (by kernel_rfl) (fun _ _ _ h => h) (Or.inl ⟨by rfl, ?_⟩) (by assumption) ?_
      rotate_left
      · (intro wq hSw; (try dsimp only at hSw); go_simp; try with_reducible rfl)
      try simp only [Act.put, List.setIfInBounds_toArray, List.set_cons_zero, List.set_cons_succ]
      refine wpAnyH_take (i := 4) (oi := ⟨some 33, _, _, _, _, _⟩) (v := ?_) rfl (by kernel_rfl) (by kernel_rfl) (by kernel_rfl) (fun _ _ _ h => h) (Or.inl ⟨by rfl, ?_⟩) (by assumption) ?_
      rotate_left
      · (intro wq hSw; (try dsimp only at hSw); go_simp; try with_reducible rfl)
      try simp only [Act.put, List.setIfInBounds_toArray, List.set_cons_zero, List.set_cons_succ]
      refine wpAnyH_take (i := 6) (oi := ⟨some 35, _, _, _, _, _⟩) (v := ?_) rfl (by kernel_rfl) (by kernel_rfl) (by kernel_rfl) (fun _ _ _ h => h) (Or.inl ⟨by rfl, ?_⟩) (by assumption) ?_
      rotate_left
      · (intro wq hSw; (try dsimp only at hSw); go_simp; try with_reducible rfl)
      try simp only [Act.put, List.setIfInBounds_toArray, List.set_cons_zero, List.set_cons_succ]
      refine wpAnyH_ready (rs := [5]) (by kernel_rfl) (by simp) ?_
      refine AllReadyH.cons (o := ⟨some 34, _, _, _, _, _⟩) rfl (fun K hK => ?_) AllReadyH.nil
      go_simp
      refine hK.out _ _ hHeld (fun hHeld => ?_)
      clear hK K
      try simp only [Act.put, List.setIfInBounds_toArray, List.set_cons_zero, List.set_cons_succ]
      refine wpAnyH_take (i := 7) (oi := ⟨some 36, _, _, _, _, _⟩) (v := ?_) rfl (by kernel_rfl) (by kernel_rfl) (by kernel_rfl) (fun _ _ _ h => h) (Or.inl ⟨by rfl, ?_⟩) (by assumption) ?_
      rotate_left
      · (intro wq hSw; (try dsimp only at hSw); go_simp; try with_reducible rfl)
      try simp only [Act.put, List.setIfInBounds_toArray, List.set_cons_zero, List.set_cons_succ]
      refine wpAnyH_done (by kernel_rfl) ?_ _
      go_wp2_with fail
      go_ret
      exact ⟨by rw [HR.out]; rfl, by rw [HS.out]; exact (h2.mono (by omega)).drew, k2.drew⟩
    · have HR : Hid (sendE s a c d v = 0) := by rw [Hid, hE, if_neg ho]
      have HS : Hid (sendS s a c d v = ⟨sendB s a c d v, s.sup⟩) := by rw [Hid]; unfold sendS; rw [if_pos HR.out]
      have eo : decide (s.bal d a < v) = false := decide_eq_false ho
      have hv2 : v ≤ 18446744073709551615 := by have := hv.lt; omega
      have hx := subM_wrap (s.bal d a) v hv2
      obtain ⟨st, wE, w3, e1, e2, e3, e4, hm3, hg3, hce⟩ := h2.drew.drew.mp.turn2 hd9 ha9 (by unfold maxLen; omega) (subM_u (s.bal d a) v)
      have h3 := h2.drew.drew.bals hg3 hm3
      have k3 : Keeps (Two mb ms) w w3 := World.grownBy.keepsM k2.drew.drew hg3
      have q3 := q2.drew.drew.keepS (grown_keeps hg3) (h2.mp.not_cells q2)
      have r3 := r2.drew.drew.keepS (grown_keeps hg3) (h2.mp.not_cells r2)
      have S7 : W2.drew.drew.cell? ⟨b, 0, none⟩ = some (.map (some mb)) ∧ W2.drew.drew.cell? ⟨Q, 0, none⟩ = some (.string ⟨d.toArray⟩) ∧ W2.drew.drew.cell? ⟨Q, 1, none⟩ = some (.string ⟨a.toArray⟩) := ⟨h2.drew.cells.1, q2.cells.1, q2.cells.2⟩
      have S7E : wE.cell? ⟨b, 0, none⟩ = some (.map (some mb)) ∧ wE.cell? ⟨Q, 0, none⟩ = some (.string ⟨d.toArray⟩) ∧ wE.cell? ⟨Q, 1, none⟩ = some (.string ⟨a.toArray⟩) :=
        ⟨(hce ⟨b, 0, none⟩ (h2.mp.not_cells h2.blk)).trans S7.1, (hce ⟨Q, 0, none⟩ (h2.mp.not_cells q2)).trans S7.2.1, (hce ⟨Q, 1, none⟩ (h2.mp.not_cells q2)).trans S7.2.2⟩
      have S73 : w3.cell? ⟨b, 0, none⟩ = some (.map (some mb)) ∧ w3.cell? ⟨Q, 0, none⟩ = some (.string ⟨d.toArray⟩) ∧ w3.cell? ⟨Q, 1, none⟩ = some (.string ⟨a.toArray⟩) := ⟨h3.cells.1, q3.cells.1, q3.cells.2⟩
      have hy := addM_wrap (upd2 s.bal d a (subM (s.bal d a) v) d c) v
      obtain ⟨su, wF, w4, f1, f2, f3, f4, hm4, hg4, hcf⟩ := h3.drew.mp.turn2 hd9 hc9 (by unfold maxLen; omega) (addM_u (upd2 s.bal d a (subM (s.bal d a) v) d c) v)
      have h4 := h3.drew.bals hg4 hm4
      have H4 : Hid (Bk w4 b mb ms (n + 2) ⟨sendB s a c d v, s.sup⟩) := h4
      have K4 := Lib.hid (World.grownBy.keepsM k3.drew hg4)
      have r4 := r3.drew.keepS (grown_keeps hg4) (h3.mp.not_cells r3)
      have S8 : w3.drew.cell? ⟨b, 0, none⟩ = some (.map (some mb)) ∧ w3.drew.cell? ⟨Q2, 0, none⟩ = some (.string ⟨d.toArray⟩) ∧ w3.drew.cell? ⟨Q2, 1, none⟩ = some (.string ⟨c.toArray⟩) := ⟨h3.cells.1, r3.cells.1, r3.cells.2⟩
      have S8F : wF.cell? ⟨b, 0, none⟩ = some (.map (some mb)) ∧ wF.cell? ⟨Q2, 0, none⟩ = some (.string ⟨d.toArray⟩) ∧ wF.cell? ⟨Q2, 1, none⟩ = some (.string ⟨c.toArray⟩) :=
        ⟨(hcf ⟨b, 0, none⟩ (h3.mp.not_cells h3.blk)).trans S8.1, (hcf ⟨Q2, 0, none⟩ (h3.mp.not_cells r3)).trans S8.2.1, (hcf ⟨Q2, 1, none⟩ (h3.mp.not_cells r3)).trans S8.2.2⟩
      have S84 : w4.cell? ⟨b, 0, none⟩ = some (.map (some mb)) ∧ w4.cell? ⟨Q2, 0, none⟩ = some (.string ⟨d.toArray⟩) ∧ w4.cell? ⟨Q2, 1, none⟩ = some (.string ⟨c.toArray⟩) := ⟨h4.cells.1, r4.cells.1, r4.cells.2⟩
      clear hE hc ho hce hg3 hm3 hg4 hm4 h3 k3 q3 h2 k2 q2 r2 r3 r4 h4 hcf
      simp only at e1 e2 e3 f1 f2 f3
      generalize upd2 s.bal d a (subM (s.bal d a) v) d c = xc at *
      generalize addM xc v = zc at *
      generalize subM (s.bal d a) v = z at *
      generalize s.bal d a = x at *
      go_wp2_with fail
      refine wp_region_held_drew (S := (fun w' => w'.cell? ⟨b, 0, none⟩ = some (.map (some mb)) ∧ w'.cell? ⟨Q, 0, none⟩ = some (.string ⟨d.toArray⟩) ∧ w'.cell? ⟨Q, 1, none⟩ = some (.string ⟨a.toArray⟩))) (by kernel_rfl) ?_ (fun hHeld => ?_)
      · exact S5
      refine wpAnyH_take (i := 0) (oi := ⟨some 29, _, _, _, _, _⟩) (v := ?_) rfl (by kernel_rfl) (by kernel_rfl) (by kernel_rfl) (fun _ _ _ h => h) (Or.inl ⟨by rfl, ?_⟩) (by assumption) ?_
      rotate_left
      · (intro wq hSw; (try dsimp only at hSw); go_simp; try with_reducible rfl)
      try simp only [Act.put, List.setIfInBounds_toArray, List.set_cons_zero, List.set_cons_succ]
      refine wpAnyH_take (i := 1) (oi := ⟨some 30, _, _, _, _, _⟩) (v := ?_) rfl (by kernel_rfl) (by kernel_rfl) (by kernel_rfl) (fun _ _ _ h => h) (Or.inl ⟨by rfl, ?_⟩) (by assumption) ?_
      rotate_left
      · (intro wq hSw; (try dsimp only at hSw); go_simp; try with_reducible rfl)
      try simp only [Act.put, List.setIfInBounds_toArray, List.set_cons_zero, List.set_cons_succ]
      refine wpAnyH_take (i := 2) (oi := ⟨some 31, _, _, _, _, _⟩) (v := ?_) rfl (by kernel_rfl) (by kernel_rfl) (by kernel_rfl) (fun _ _ _ h => h) (Or.inl ⟨by rfl, ?_⟩) (by assumption) ?_
      rotate_left
      · (intro wq hSw; (try dsimp only at hSw); go_simp; try with_reducible rfl)
      try simp only [Act.put, List.setIfInBounds_toArray, List.set_cons_zero, List.set_cons_succ]
      refine wpAnyH_take (i := 3) (oi := ⟨some 32, _, _, _, _, _⟩) (v := ?_) rfl (by kernel_rfl) (by kernel_rfl) (by kernel_rfl) (fun _ _ _ h => h) (Or.inl ⟨by rfl, ?_⟩) (by assumption) ?_
      rotate_left
      · (intro wq hSw; (try dsimp only at hSw); go_simp; try with_reducible rfl)
      try simp only [Act.put, List.setIfInBounds_toArray, List.set_cons_zero, List.set_cons_succ]
      refine wpAnyH_take (i := 4) (oi := ⟨some 33, _, _, _, _, _⟩) (v := ?_) rfl (by kernel_rfl) (by kernel_rfl) (by kernel_rfl) (fun _ _ _ h => h) (Or.inl ⟨by rfl, ?_⟩) (by assumption) ?_
      rotate_left
      · (intro wq hSw; (try dsimp only at hSw); go_simp; try with_reducible rfl)
      try simp only [Act.put, List.setIfInBounds_toArray, List.set_cons_zero, List.set_cons_succ]
      refine wpAnyH_take (i := 6) (oi := ⟨some 35, _, _, _, _, _⟩) (v := ?_) rfl (by kernel_rfl) (by kernel_rfl) (by kernel_rfl) (fun _ _ _ h => h) (Or.inl ⟨by rfl, ?_⟩) (by assumption) ?_
      rotate_left
      · (intro wq hSw; (try dsimp only at hSw); go_simp; try with_reducible rfl)
      try simp only [Act.put, List.setIfInBounds_toArray, List.set_cons_zero, List.set_cons_succ]
      refine wpAnyH_ready (rs := [5]) (by kernel_rfl) (by simp) ?_
      refine AllReadyH.cons (o := ⟨some 34, _, _, _, _, _⟩) rfl (fun K hK => ?_) AllReadyH.nil
      go_simp
      refine hK.out _ _ hHeld (fun hHeld => ?_)
      clear hK K
      try simp only [Act.put, List.setIfInBounds_toArray, List.set_cons_zero, List.set_cons_succ]
      refine wpAnyH_take (i := 7) (oi := ⟨some 36, _, _, _, _, _⟩) (v := ?_) rfl (by kernel_rfl) (by kernel_rfl) (by kernel_rfl) (fun _ _ _ h => h) (Or.inl ⟨by rfl, ?_⟩) (by assumption) ?_
      rotate_left
      · (intro wq hSw; (try dsimp only at hSw); go_simp; try with_reducible rfl)
      try simp only [Act.put, List.setIfInBounds_toArray, List.set_cons_zero, List.set_cons_succ]
      refine wpAnyH_done (by kernel_rfl) ?_ _
      clear hHeld hL5 S5
      go_wp2_with fail
      refine wp_region_held_drew (S := (fun w' => w'.cell? ⟨b, 0, none⟩ = some (.map (some mb)) ∧ w'.cell? ⟨Q, 0, none⟩ = some (.string ⟨d.toArray⟩) ∧ w'.cell? ⟨Q, 1, none⟩ = some (.string ⟨a.toArray⟩))) (by kernel_rfl) ?_ (fun hHeld => ?_)
      · exact S7
      refine wpAnyH_take (i := 0) (oi := ⟨some 37, _, _, _, _, _⟩) (v := ?_) rfl (by kernel_rfl) (by kernel_rfl) (by kernel_rfl) (fun _ _ _ h => h) (Or.inl ⟨by rfl, ?_⟩) (by assumption) ?_
      rotate_left
      · (intro wq hSw; (try dsimp only at hSw); go_simp; try with_reducible rfl)
      try simp only [Act.put, List.setIfInBounds_toArray, List.set_cons_zero, List.set_cons_succ]
      refine wpAnyH_take (i := 1) (oi := ⟨some 38, _, _, _, _, _⟩) (v := ?_) rfl (by kernel_rfl) (by kernel_rfl) (by kernel_rfl) (fun _ _ _ h => h) (Or.inl ⟨by rfl, ?_⟩) (by assumption) ?_
      rotate_left
      · (intro wq hSw; (try dsimp only at hSw); go_simp; try with_reducible rfl)
      try simp only [Act.put, List.setIfInBounds_toArray, List.set_cons_zero, List.set_cons_succ]
      refine wpAnyH_take (i := 2) (oi := ⟨some 39, _, _, _, _, _⟩) (v := ?_) rfl (by kernel_rfl) (by kernel_rfl) (by kernel_rfl) (fun _ _ _ h => h) (Or.inl ⟨by rfl, ?_⟩) (by assumption) ?_
      rotate_left
      · (intro wq hSw; (try dsimp only at hSw); go_simp; try with_reducible rfl)
      try simp only [Act.put, List.setIfInBounds_toArray, List.set_cons_zero, List.set_cons_succ]
      refine wpAnyH_take (i := 3) (oi := ⟨some 40, _, _, _, _, _⟩) (v := ?_) rfl (by kernel_rfl) (by kernel_rfl) (by kernel_rfl) (fun _ _ _ h => h) (Or.inl ⟨by rfl, ?_⟩) (by assumption) ?_
      rotate_left
      · (intro wq hSw; (try dsimp only at hSw); go_simp; try with_reducible rfl)
      try simp only [Act.put, List.setIfInBounds_toArray, List.set_cons_zero, List.set_cons_succ]
      refine wpAnyH_take (i := 4) (oi := ⟨some 41, _, _, _, _, _⟩) (v := ?_) rfl (by kernel_rfl) (by kernel_rfl) (by kernel_rfl) (fun _ _ _ h => h) (Or.inl ⟨by rfl, ?_⟩) (by assumption) ?_
      rotate_left
      · (intro wq hSw; (try dsimp only at hSw); go_simp; try with_reducible rfl)
      try simp only [Act.put, List.setIfInBounds_toArray, List.set_cons_zero, List.set_cons_succ]
      refine wpAnyH_take (i := 6) (oi := ⟨some 43, _, _, _, _, _⟩) (v := ?_) rfl (by kernel_rfl) (by kernel_rfl) (by kernel_rfl) (fun _ _ _ h => h) (Or.inl ⟨by rfl, ?_⟩) (by assumption) ?_
      rotate_left
      · (intro wq hSw; (try dsimp only at hSw); go_simp; try with_reducible rfl)
      try simp only [Act.put, List.setIfInBounds_toArray, List.set_cons_zero, List.set_cons_succ]
      refine wpAnyH_ready (rs := [5, 8]) (by kernel_rfl) (by simp) ?_
      refine AllReadyH.cons (o := ⟨some 42, _, _, _, _, _⟩) rfl (fun K hK => ?_) (AllReadyH.cons (o := ⟨some 45, _, _, _, _, _⟩) rfl (fun K hK => ?_) AllReadyH.nil)
      focus
        go_simp
        refine hK.out _ _ hHeld (fun hHeld => ?_)
        clear hK K
        try simp only [Act.put, List.setIfInBounds_toArray, List.set_cons_zero, List.set_cons_succ]
        refine wpAnyH_take (i := 7) (oi := ⟨some 44, _, _, _, _, _⟩) (v := ?_) rfl (by kernel_rfl) (by kernel_rfl) (by kernel_rfl) (fun _ _ _ h => h) (Or.inl ⟨by rfl, ?_⟩) (by assumption) ?_
        rotate_left
        · (intro wq hSw; (try dsimp only at hSw); go_simp; try with_reducible rfl)
        try simp only [Act.put, List.setIfInBounds_toArray, List.set_cons_zero, List.set_cons_succ]
        refine wpAnyH_ready (rs := [8]) (by kernel_rfl) (by simp) ?_
        refine AllReadyH.cons (o := ⟨some 45, _, _, _, _, _⟩) rfl (fun K hK => ?_) AllReadyH.nil
        go_simp
        refine hK.out _ _ (S7E) (fun hHeld => ?_)
        clear hK K
        try simp only [Act.put, List.setIfInBounds_toArray, List.set_cons_zero, List.set_cons_succ]
        refine wpAnyH_take (i := 9) (oi := ⟨some 46, _, _, _, _, _⟩) (v := ?_) rfl (by kernel_rfl) (by kernel_rfl) (by kernel_rfl) (fun _ _ _ h => h) (Or.inl ⟨by rfl, ?_⟩) (by assumption) ?_
        rotate_left
        · (intro wq hSw; (try dsimp only at hSw); go_simp; try with_reducible rfl)
        try simp only [Act.put, List.setIfInBounds_toArray, List.set_cons_zero, List.set_cons_succ]
        refine wpAnyH_ready (rs := [10]) (by kernel_rfl) (by simp) ?_
        refine AllReadyH.cons (o := ⟨none, _, _, _, _, _⟩) rfl (fun K hK => ?_) AllReadyH.nil
        go_simp
        refine hK.out _ _ (S73) (fun hHeld => ?_)
        clear hK K
        try simp only [Act.put, List.setIfInBounds_toArray, List.set_cons_zero, List.set_cons_succ]
        refine wpAnyH_done (by kernel_rfl) ?_ _
      rotate_left 1
      focus
        go_simp
        refine hK.out _ _ (S7E) (fun hHeld => ?_)
        clear hK K
        try simp only [Act.put, List.setIfInBounds_toArray, List.set_cons_zero, List.set_cons_succ]
        refine wpAnyH_take (i := 9) (oi := ⟨some 46, _, _, _, _, _⟩) (v := ?_) rfl (by kernel_rfl) (by kernel_rfl) (by kernel_rfl) (fun _ _ _ h => h) (Or.inl ⟨by rfl, ?_⟩) (by assumption) ?_
        rotate_left
        · (intro wq hSw; (try dsimp only at hSw); go_simp; try with_reducible rfl)
        try simp only [Act.put, List.setIfInBounds_toArray, List.set_cons_zero, List.set_cons_succ]
        refine wpAnyH_ready (rs := [5]) (by kernel_rfl) (by simp) ?_
        refine AllReadyH.cons (o := ⟨some 42, _, _, _, _, _⟩) rfl (fun K hK => ?_) AllReadyH.nil
        go_simp
        refine hK.out _ _ hHeld (fun hHeld => ?_)
        clear hK K
        try simp only [Act.put, List.setIfInBounds_toArray, List.set_cons_zero, List.set_cons_succ]
        refine wpAnyH_take (i := 7) (oi := ⟨some 44, _, _, _, _, _⟩) (v := ?_) rfl (by kernel_rfl) (by kernel_rfl) (by kernel_rfl) (fun _ _ _ h => h) (Or.inl ⟨by rfl, ?_⟩) (by assumption) ?_
        rotate_left
        · (intro wq hSw; (try dsimp only at hSw); go_simp; try with_reducible rfl)
        try simp only [Act.put, List.setIfInBounds_toArray, List.set_cons_zero, List.set_cons_succ]
        refine wpAnyH_ready (rs := [10]) (by kernel_rfl) (by simp) ?_
        refine AllReadyH.cons (o := ⟨none, _, _, _, _, _⟩) rfl (fun K hK => ?_) AllReadyH.nil
        go_simp
        refine hK.out _ _ (S73) (fun hHeld => ?_)
        clear hK K
        try simp only [Act.put, List.setIfInBounds_toArray, List.set_cons_zero, List.set_cons_succ]
        refine wpAnyH_done (by kernel_rfl) ?_ _
      rotate_left 1
      all_goals
        clear hHeld S7 S7E S73 e1 e2 e3 e4
        go_wp2_with fail
        refine wp_region_held_drew (S := (fun w' => w'.cell? ⟨b, 0, none⟩ = some (.map (some mb)) ∧ w'.cell? ⟨Q2, 0, none⟩ = some (.string ⟨d.toArray⟩) ∧ w'.cell? ⟨Q2, 1, none⟩ = some (.string ⟨c.toArray⟩))) (by kernel_rfl) ?_ (fun hHeld => ?_)
        · exact S8
        refine wpAnyH_take (i := 0) (oi := ⟨some 47, _, _, _, _, _⟩) (v := ?_) rfl (by kernel_rfl) (by kernel_rfl) (by kernel_rfl) (fun _ _ _ h => h) (Or.inl ⟨by rfl, ?_⟩) (by assumption) ?_
        rotate_left
        · (intro wq hSw; (try dsimp only at hSw); go_simp; try with_reducible rfl)
        try simp only [Act.put, List.setIfInBounds_toArray, List.set_cons_zero, List.set_cons_succ]
        refine wpAnyH_take (i := 1) (oi := ⟨some 48, _, _, _, _, _⟩) (v := ?_) rfl (by kernel_rfl) (by kernel_rfl) (by kernel_rfl) (fun _ _ _ h => h) (Or.inl ⟨by rfl, ?_⟩) (by assumption) ?_
        rotate_left
        · (intro wq hSw; (try dsimp only at hSw); go_simp; try with_reducible rfl)
        try simp only [Act.put, List.setIfInBounds_toArray, List.set_cons_zero, List.set_cons_succ]
        refine wpAnyH_take (i := 2) (oi := ⟨some 49, _, _, _, _, _⟩) (v := ?_) rfl (by kernel_rfl) (by kernel_rfl) (by kernel_rfl) (fun _ _ _ h => h) (Or.inl ⟨by rfl, ?_⟩) (by assumption) ?_
        rotate_left
        · (intro wq hSw; (try dsimp only at hSw); go_simp; try with_reducible rfl)
        try simp only [Act.put, List.setIfInBounds_toArray, List.set_cons_zero, List.set_cons_succ]
        refine wpAnyH_take (i := 3) (oi := ⟨some 50, _, _, _, _, _⟩) (v := ?_) rfl (by kernel_rfl) (by kernel_rfl) (by kernel_rfl) (fun _ _ _ h => h) (Or.inl ⟨by rfl, ?_⟩) (by assumption) ?_
        rotate_left
        · (intro wq hSw; (try dsimp only at hSw); go_simp; try with_reducible rfl)
        try simp only [Act.put, List.setIfInBounds_toArray, List.set_cons_zero, List.set_cons_succ]
        refine wpAnyH_take (i := 4) (oi := ⟨some 51, _, _, _, _, _⟩) (v := ?_) rfl (by kernel_rfl) (by kernel_rfl) (by kernel_rfl) (fun _ _ _ h => h) (Or.inl ⟨by rfl, ?_⟩) (by assumption) ?_
        rotate_left
        · (intro wq hSw; (try dsimp only at hSw); go_simp; try with_reducible rfl)
        try simp only [Act.put, List.setIfInBounds_toArray, List.set_cons_zero, List.set_cons_succ]
        refine wpAnyH_take (i := 6) (oi := ⟨some 53, _, _, _, _, _⟩) (v := ?_) rfl (by kernel_rfl) (by kernel_rfl) (by kernel_rfl) (fun _ _ _ h => h) (Or.inl ⟨by rfl, ?_⟩) (by assumption) ?_
        rotate_left
        · (intro wq hSw; (try dsimp only at hSw); go_simp; try with_reducible rfl)
        try simp only [Act.put, List.setIfInBounds_toArray, List.set_cons_zero, List.set_cons_succ]
        refine wpAnyH_ready (rs := [5, 8]) (by kernel_rfl) (by simp) ?_
        refine AllReadyH.cons (o := ⟨some 52, _, _, _, _, _⟩) rfl (fun K hK => ?_) (AllReadyH.cons (o := ⟨some 55, _, _, _, _, _⟩) rfl (fun K hK => ?_) AllReadyH.nil)
        focus
          go_simp
          refine hK.out _ _ hHeld (fun hHeld => ?_)
          clear hK K
          try simp only [Act.put, List.setIfInBounds_toArray, List.set_cons_zero, List.set_cons_succ]
          refine wpAnyH_take (i := 7) (oi := ⟨some 54, _, _, _, _, _⟩) (v := ?_) rfl (by kernel_rfl) (by kernel_rfl) (by kernel_rfl) (fun _ _ _ h => h) (Or.inl ⟨by rfl, ?_⟩) (by assumption) ?_
          rotate_left
          · (intro wq hSw; (try dsimp only at hSw); go_simp; try with_reducible rfl)
          try simp only [Act.put, List.setIfInBounds_toArray, List.set_cons_zero, List.set_cons_succ]
          refine wpAnyH_ready (rs := [8]) (by kernel_rfl) (by simp) ?_
          refine AllReadyH.cons (o := ⟨some 55, _, _, _, _, _⟩) rfl (fun K hK => ?_) AllReadyH.nil
          go_simp
          refine hK.out _ _ (S8F) (fun hHeld => ?_)
          clear hK K
          try simp only [Act.put, List.setIfInBounds_toArray, List.set_cons_zero, List.set_cons_succ]
          refine wpAnyH_take (i := 9) (oi := ⟨some 56, _, _, _, _, _⟩) (v := ?_) rfl (by kernel_rfl) (by kernel_rfl) (by kernel_rfl) (fun _ _ _ h => h) (Or.inl ⟨by rfl, ?_⟩) (by assumption) ?_
          rotate_left
          · (intro wq hSw; (try dsimp only at hSw); go_simp; try with_reducible rfl)
          try simp only [Act.put, List.setIfInBounds_toArray, List.set_cons_zero, List.set_cons_succ]
          refine wpAnyH_ready (rs := [10]) (by kernel_rfl) (by simp) ?_
          refine AllReadyH.cons (o := ⟨none, _, _, _, _, _⟩) rfl (fun K hK => ?_) AllReadyH.nil
          go_simp
          refine hK.out _ _ (S84) (fun hHeld => ?_)
          clear hK K
          try simp only [Act.put, List.setIfInBounds_toArray, List.set_cons_zero, List.set_cons_succ]
          refine wpAnyH_done (by kernel_rfl) ?_ _
        rotate_left 1
        focus
          go_simp
          refine hK.out _ _ (S8F) (fun hHeld => ?_)
          clear hK K
          try simp only [Act.put, List.setIfInBounds_toArray, List.set_cons_zero, List.set_cons_succ]
          refine wpAnyH_take (i := 9) (oi := ⟨some 56, _, _, _, _, _⟩) (v := ?_) rfl (by kernel_rfl) (by kernel_rfl) (by kernel_rfl) (fun _ _ _ h => h) (Or.inl ⟨by rfl, ?_⟩) (by assumption) ?_
          rotate_left
          · (intro wq hSw; (try dsimp only at hSw); go_simp; try with_reducible rfl)
          try simp only [Act.put, List.setIfInBounds_toArray, List.set_cons_zero, List.set_cons_succ]
          refine wpAnyH_ready (rs := [5]) (by kernel_rfl) (by simp) ?_
          refine AllReadyH.cons (o := ⟨some 52, _, _, _, _, _⟩) rfl (fun K hK => ?_) AllReadyH.nil
          go_simp
          refine hK.out _ _ hHeld (fun hHeld => ?_)
          clear hK K
          try simp only [Act.put, List.setIfInBounds_toArray, List.set_cons_zero, List.set_cons_succ]
          refine wpAnyH_take (i := 7) (oi := ⟨some 54, _, _, _, _, _⟩) (v := ?_) rfl (by kernel_rfl) (by kernel_rfl) (by kernel_rfl) (fun _ _ _ h => h) (Or.inl ⟨by rfl, ?_⟩) (by assumption) ?_
          rotate_left
          · (intro wq hSw; (try dsimp only at hSw); go_simp; try with_reducible rfl)
          try simp only [Act.put, List.setIfInBounds_toArray, List.set_cons_zero, List.set_cons_succ]
          refine wpAnyH_ready (rs := [10]) (by kernel_rfl) (by simp) ?_
          refine AllReadyH.cons (o := ⟨none, _, _, _, _, _⟩) rfl (fun K hK => ?_) AllReadyH.nil
          go_simp
          refine hK.out _ _ (S84) (fun hHeld => ?_)
          clear hK K
          try simp only [Act.put, List.setIfInBounds_toArray, List.set_cons_zero, List.set_cons_succ]
          refine wpAnyH_done (by kernel_rfl) ?_ _
        rotate_left 1
        all_goals
          clear hHeld S8 S8F S84 f1 f2 f3 f4
          go_wp2_with fail
          go_ret
          exact ⟨by rw [HR.out]; rfl, by rw [HS.out]; exact H4.out, K4.out⟩
  · have HR : Hid (sendE s a c d v = chkE v d [a, c]) := by rw [Hid]; unfold sendE; rw [if_neg hc]
    have HS : Hid (sendS s a c d v = s) := by rw [Hid]; unfold sendS; rw [HR.out, if_neg hc]
    have e0 : (chkE v d [a, c] == 0) = false := by simpa using hc
    have e1 : (chkE v d [a, c] != 0) = true := by simpa using hc
    clear hc hs
    generalize sendE s a c d v = out at *
    generalize sendS s a c d v = s' at *
    generalize chkE v d [a, c] = cc at *
    go_enter Try.func37, Try.ntmps37
    go_wp2_with fail
    generalize World.alloc w _ = W at *
    generalize w.heap.size = G at *
    refine CK.mono ?_
    rintro e w' ⟨rfl, rfl⟩
    go_wp2_with fail
    go_ret
    exact ⟨by rw [HR.out]; rfl, by rw [HS.out]; exact h1.mono (by omega), k1⟩

theorem cloneP (w : World) {m n : Nat} {f : List UInt8 → List UInt8 → Nat} (h : MapP w m n f) :
    Calls Try.prog 68 #[.map (some m)] w fun e w' => e = .returned (.map (some w.heap.size)) ∧ MapP w' w.heap.size n f ∧ New w w' := by
  obtain ⟨D, h1, h2⟩ := h
  exact (AnyW.maps_Clone_owns Try.cloneM 91 _ m n D w h1).mono fun _ _ ⟨he, ho, _, hB⟩ => ⟨he, ⟨D, ho, h2⟩, New.of_below hB⟩
theorem cloneS (w : World) {m n : Nat} {f : List UInt8 → Nat} (h : MapS w m n f) :
    Calls Try.prog 69 #[.map (some m)] w fun e w' => e = .returned (.map (some w.heap.size)) ∧ MapS w' w.heap.size n f ∧ New w w' := by
  obtain ⟨D, h1, h2⟩ := h
  exact (AnyW.maps_Clone_owns Try.cloneS 9 _ m n D w h1).mono fun _ _ ⟨he, ho, _, hB⟩ => ⟨he, ⟨D, ho, h2⟩, New.of_below hB⟩
set_option maxHeartbeats 2000000 in
set_option maxRecDepth 100000 in
theorem copy_any (b mb ms n : Nat) (s : BkS) (w : World) (h : Bk w b mb ms n s) :
    Calls Try.prog 40 #[.pointer (some ⟨b, 0, none⟩)] w fun e w' => ∃ b' mb' ms', e = .returned (.pointer (some ⟨b', 0, none⟩)) ∧ Bk w' b' mb' ms' n s ∧ New w w' ∧ w.heap.size ≤ b' ∧ w.heap.size ≤ mb' ∧ w.heap.size ≤ ms' := by
  have hc := h.cells
  have C1 := cloneP w.drew h.mp.drew
  have hsz : w.drew.heap.size = w.heap.size := rfl
  go_enter Try.func40, Try.ntmps40
  go_wp2_with fail
  refine wp_region_held_drew (S := (fun w' => w'.cell? ⟨b, 0, none⟩ = some (.map (some mb)) ∧ w'.cell? ⟨b, 1, none⟩ = some (.map (some ms)))) (by kernel_rfl) ?_ (fun hHeld => ?_)
  · exact hc
  refine wpAnyH_take (i := 0) (oi := ⟨some 3, _, _, _, _, _⟩) (v := ?_) rfl (by kernel_rfl) (by kernel_rfl) (by kernel_rfl) (fun _ _ _ h => h) (Or.inl ⟨by rfl, ?_⟩) (by assumption) ?_
  rotate_left
  · (intro wq hSw; (try dsimp only at hSw); go_simp; try with_reducible rfl)
  try simp only [Act.put, List.setIfInBounds_toArray, List.set_cons_zero, List.set_cons_succ]
  refine wpAnyH_take (i := 1) (oi := ⟨some 4, _, _, _, _, _⟩) (v := ?_) rfl (by kernel_rfl) (by kernel_rfl) (by kernel_rfl) (fun _ _ _ h => h) (Or.inl ⟨by rfl, ?_⟩) (by assumption) ?_
  rotate_left
  · (intro wq hSw; (try dsimp only at hSw); go_simp; try with_reducible rfl)
  try simp only [Act.put, List.setIfInBounds_toArray, List.set_cons_zero, List.set_cons_succ]
  refine wpAnyH_take (i := 2) (oi := ⟨some 5, _, _, _, _, _⟩) (v := ?_) rfl (by kernel_rfl) (by kernel_rfl) (by kernel_rfl) (fun _ _ _ h => h) (Or.inl ⟨by rfl, ?_⟩) (by assumption) ?_
  rotate_left
  · (intro wq hSw; (try dsimp only at hSw); go_simp; try with_reducible rfl)
  try simp only [Act.put, List.setIfInBounds_toArray, List.set_cons_zero, List.set_cons_succ]
  refine wpAnyH_take (i := 3) (oi := ⟨some 6, _, _, _, _, _⟩) (v := ?_) rfl (by kernel_rfl) (by kernel_rfl) (by kernel_rfl) (fun _ _ _ h => h) (Or.inl ⟨by rfl, ?_⟩) (by assumption) ?_
  rotate_left
  · (intro wq hSw; (try dsimp only at hSw); go_simp; try with_reducible rfl)
  try simp only [Act.put, List.setIfInBounds_toArray, List.set_cons_zero, List.set_cons_succ]
  refine wpAnyH_take (i := 5) (oi := ⟨some 8, _, _, _, _, _⟩) (v := ?_) rfl (by kernel_rfl) (by kernel_rfl) (by kernel_rfl) (fun _ _ _ h => h) (Or.inl ⟨by rfl, ?_⟩) (by assumption) ?_
  rotate_left
  · (intro wq hSw; (try dsimp only at hSw); go_simp; try with_reducible rfl)
  try simp only [Act.put, List.setIfInBounds_toArray, List.set_cons_zero, List.set_cons_succ]
  refine wpAnyH_take (i := 6) (oi := ⟨some 9, _, _, _, _, _⟩) (v := ?_) rfl (by kernel_rfl) (by kernel_rfl) (by kernel_rfl) (fun _ _ _ h => h) (Or.inl ⟨by rfl, ?_⟩) (by assumption) ?_
  rotate_left
  · (intro wq hSw; (try dsimp only at hSw); go_simp; try with_reducible rfl)
  try simp only [Act.put, List.setIfInBounds_toArray, List.set_cons_zero, List.set_cons_succ]
  refine wpAnyH_take (i := 7) (oi := ⟨some 10, _, _, _, _, _⟩) (v := ?_) rfl (by kernel_rfl) (by kernel_rfl) (by kernel_rfl) (fun _ _ _ h => h) (Or.inl ⟨by rfl, ?_⟩) (by assumption) ?_
  rotate_left
  · (intro wq hSw; (try dsimp only at hSw); go_simp; try with_reducible rfl)
  try simp only [Act.put, List.setIfInBounds_toArray, List.set_cons_zero, List.set_cons_succ]
  refine wpAnyH_take (i := 8) (oi := ⟨some 11, _, _, _, _, _⟩) (v := ?_) rfl (by kernel_rfl) (by kernel_rfl) (by kernel_rfl) (fun _ _ _ h => h) (Or.inl ⟨by rfl, ?_⟩) (by assumption) ?_
  rotate_left
  · (intro wq hSw; (try dsimp only at hSw); go_simp; try with_reducible rfl)
  try simp only [Act.put, List.setIfInBounds_toArray, List.set_cons_zero, List.set_cons_succ]
  refine wpAnyH_ready (rs := [4]) (by kernel_rfl) (by simp) ?_
  refine AllReadyH.cons (o := ⟨some 7, _, _, _, _, _⟩) rfl (fun K hK => ?_) AllReadyH.nil
  go_simp
  refine C1.mono ?_; rintro e w1 ⟨rfl, m1, k1⟩; have h1 := h.drew.keep k1; have C2 := cloneS w1 h1.su
  refine hK.out _ _ (h1.cells) (fun hHeld => ?_)
  clear hK K
  try simp only [Act.put, List.setIfInBounds_toArray, List.set_cons_zero, List.set_cons_succ]
  refine wpAnyH_ready (rs := [9]) (by kernel_rfl) (by simp) ?_
  refine AllReadyH.cons (o := ⟨some 12, _, _, _, _, _⟩) rfl (fun K hK => ?_) AllReadyH.nil
  go_simp
  refine C2.mono ?_; rintro e w2 ⟨rfl, m2, k2⟩; have h2 := h1.keep k2
  refine hK.out _ _ (h2.cells) (fun hHeld => ?_)
  clear hK K
  try simp only [Act.put, List.setIfInBounds_toArray, List.set_cons_zero, List.set_cons_succ]
  refine wpAnyH_take (i := 10) (oi := ⟨some 13, _, _, _, _, _⟩) (v := ?_) rfl (by kernel_rfl) (by kernel_rfl) (by kernel_rfl) (fun _ _ _ h => h) (Or.inl ⟨by rfl, ?_⟩) (by assumption) ?_
  rotate_left
  · (intro wq hSw; (try dsimp only at hSw); go_simp; try with_reducible rfl)
  try simp only [Act.put, List.setIfInBounds_toArray, List.set_cons_zero, List.set_cons_succ]
  refine wpAnyH_ready (rs := [11]) (by kernel_rfl) (by simp) ?_
  refine AllReadyH.cons (o := ⟨some 14, _, _, _, _, _⟩) rfl (fun K hK => ?_) AllReadyH.nil
  go_simp
  refine hK.out _ _ ((h2.keep ((New.refl _).alloc _)).cells) (fun hHeld => ?_)
  clear hK K
  try simp only [Act.put, List.setIfInBounds_toArray, List.set_cons_zero, List.set_cons_succ]
  refine wpAnyH_take (i := 12) (oi := ⟨some 2, _, _, _, _, _⟩) (v := ?_) rfl (by kernel_rfl) (by kernel_rfl) (by kernel_rfl) (fun _ _ _ h => h) (Or.inl ⟨by rfl, ?_⟩) (by assumption) ?_
  rotate_left
  · (intro wq hSw; (try dsimp only at hSw); go_simp; try with_reducible rfl)
  try simp only [Act.put, List.setIfInBounds_toArray, List.set_cons_zero, List.set_cons_succ]
  refine wpAnyH_done (by kernel_rfl) ?_ _
  go_wp2_with fail
  go_ret
  have n3 : New w2 (w2.alloc (.cells #[.map (some w.heap.size), .map (some w1.heap.size)] 83)) := (New.refl _).alloc _
  have hlt := m1.lt
  have hz1 := k1.size
  have hz2 := k2.size
  rw [hsz] at hz1 hlt m1
  exact ⟨_, _, _, rfl, ⟨heap_alloc_new w2 _, (m1.keepS k2 (fun h => h)).keepS n3 (fun h => h), m2.keepS n3 (fun h => h), by omega⟩, (((New.refl w).drew.then k1 (fun _ h => h.elim)).then k2 (fun _ h => h.elim)).then n3 (fun _ h => h.elim), by omega, by omega, by omega⟩
end Go.Proofs.Ytcldbipipehedaa
