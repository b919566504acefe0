/-
  WALKS: the bank's Burn, Send, Copy.
-/
import Derived.Test.YtcldbipipehedaaBk4
import Derived.Test.YtcldbipipehedaaShelf
import Derived.Deep.Cut
namespace Go.Proofs.Ytcldbipipehedaa
open Go.RowKit Go.ChangeMaps

def burnE (s : BkS) (a d : List UInt8) (v : Nat) : Int := if chkE v d [a] = 0 then (if s.bal d a < v then 102 else 0) else chkE v d [a]
def burnS (s : BkS) (a d : List UInt8) (v : Nat) : BkS := if burnE s a d v = 0 then ⟨upd2 s.bal d a (subM (s.bal d a) v), upd1 s.sup d (subM (s.sup d) v)⟩ else s
def sendE (s : BkS) (a c d : List UInt8) (v : Nat) : Int := if chkE v d [a, c] = 0 then (if s.bal d a < v then 102 else 0) else chkE v d [a, c]
def sendB (s : BkS) (a c d : List UInt8) (v : Nat) : List UInt8 → List UInt8 → Nat :=
  upd2 (upd2 s.bal d a (subM (s.bal d a) v)) d c (addM (upd2 s.bal d a (subM (s.bal d a) v) d c) v)
def sendS (s : BkS) (a c d : List UInt8) (v : Nat) : BkS := if sendE s a c d v = 0 then ⟨sendB s a c d v, s.sup⟩ else s
/-- a place, laid -/
def plc (w : World) (q : Nat) (d a : List UInt8) : Prop := w.heap[q]? = some (.cells #[.string ⟨d.toArray⟩, .string ⟨a.toArray⟩] 91 (0, 0))
theorem plc.cells {w : World} {q : Nat} {d a : List UInt8} (h : plc w q d a) : w.cell? ⟨q, 0, none⟩ = some (.string ⟨d.toArray⟩) ∧ w.cell? ⟨q, 1, none⟩ = some (.string ⟨a.toArray⟩) := by
  constructor <;> rw [cell_blk h] <;> rfl
theorem plc.keepS {w w' : World} {S : Nat → Prop} {q : Nat} {d a : List UInt8} (h : plc w q d a) (k : Keeps S w w') (hq : ¬ S q) : plc w' q d a := k.kept h hq
theorem plc.drew {w : World} {q : Nat} {d a : List UInt8} (h : plc w q d a) : plc w.drew q d a := h
theorem grown_keeps {w w' : World} {b : Nat} (h : w.grownBy w' (some b)) : Keeps (fun k => k = b) w w' := (Keeps.refl _ w).grown h (fun k hk => .inl (by injection hk with hk; exact hk.symm))
theorem World.grownBy.keepsM {w w1 w2 : World} {mb ms : Nat} (k : Keeps (Two mb ms) w w1) (h : w1.grownBy w2 (some mb)) : Keeps (Two mb ms) w w2 := k.grown h (fun k hk => .inl (.inl (by injection hk with hk; exact hk.symm)))
theorem World.grownBy.keepsS {w w1 w2 : World} {mb ms : Nat} (k : Keeps (Two mb ms) w w1) (h : w1.grownBy w2 (some ms)) : Keeps (Two mb ms) w w2 := k.grown h (fun k hk => .inl (.inr (by injection hk with hk; exact hk.symm)))
set_option maxHeartbeats 4000000 in
set_option maxRecDepth 100000 in
theorem burn_any (b mb ms n : Nat) (s : BkS) (a d : List UInt8) (v : Nat) (hv : U64 v) (hn : n ≤ 1000000) (w : World) (h : Bk w b mb ms n s) :
    Calls Try.prog 55 #[.pointer (some ⟨b, 0, none⟩), .string ⟨a.toArray⟩, .string ⟨d.toArray⟩, .int .u64 v] w fun e w' => e = .returned (.int .i64 (burnE s a d v)) ∧ Bk w' b mb ms (n + 2) (burnS s a d v) ∧ Keeps (Two mb ms) w w' := by
  have n1 : New w (w.alloc (.cells #[.string ⟨a.toArray⟩] 9)) := (New.refl w).alloc _
  have h1 := h.keep n1
  have hs := strs_new w [a] 9
  have CK := check_any v d [a] 1 w.heap.size 1 rfl (by omega) (w.alloc (.cells #[.string ⟨a.toArray⟩] 9)) hs
  have k1 : Keeps (Two mb ms) w (w.alloc (.cells #[.string ⟨a.toArray⟩] 9)) := (Keeps.refl _ w).alloc _
  by_cases hc : chkE v d [a] = 0
  · obtain ⟨-, hd1, hd2, ha⟩ := chk_zero hc
    have ha := (ha a (by simp)).2
    have hE : burnE s a d v = if s.bal d a < v then 102 else 0 := by unfold burnE; rw [if_pos hc]
    rw [hc] at CK
    have ha9 : a.length ≤ maxLen := by unfold maxLen; omega
    have hd9 : d.length ≤ maxLen := by unfold maxLen; omega
    clear hs n1 h
    go_enter Try.func55, Try.ntmps55
    go_wp2_with fail
    generalize World.alloc w _ = W at *
    generalize w.heap.size = G at *
    refine CK.mono ?_
    rintro e w' ⟨rfl, rfl⟩
    clear CK
    go_upto_region 5 with (fail)
    have n2 : New W (W.alloc (.cells #[.string ⟨d.toArray⟩, .string ⟨a.toArray⟩] 91)) := (New.refl W).alloc _
    have q2 : plc (W.alloc (.cells #[.string ⟨d.toArray⟩, .string ⟨a.toArray⟩] 91)) W.heap.size d a := heap_alloc_new W _
    have h2 := h1.keep n2
    have k2 : Keeps (Two mb ms) w (W.alloc (.cells #[.string ⟨d.toArray⟩, .string ⟨a.toArray⟩] 91)) := k1.alloc _
    clear h1 n2 k1
    generalize World.alloc W _ = W2 at *
    generalize W.heap.size = Q at *
    clear W
    have hL5 := h2.drew.mp.look hd9 ha9
    unfold plV at hL5
    have S5 : W2.drew.cell? ⟨b, 0, none⟩ = some (.map (some mb)) ∧ W2.drew.cell? ⟨Q, 0, none⟩ = some (.string ⟨d.toArray⟩) ∧ W2.drew.cell? ⟨Q, 1, none⟩ = some (.string ⟨a.toArray⟩) := ⟨h2.drew.cells.1, q2.cells.1, q2.cells.2⟩
    by_cases ho : s.bal d a < v
    · have HR : Hid (burnE s a d v = 102) := by rw [Hid, hE, if_pos ho]
      have HS : Hid (burnS s a d v = s) := by rw [Hid]; unfold burnS; rw [HR.out]; rfl
      have eo : decide (s.bal d a < v) = true := decide_eq_true ho
      clear hE hc ho
      generalize s.bal d a = x at *
      go_wp2_with fail
      refine wp_region_held_drew (S := (fun w' => w'.cell? ⟨b, 0, none⟩ = some (.map (some mb)) ∧ w'.cell? ⟨Q, 0, none⟩ = some (.string ⟨d.toArray⟩) ∧ w'.cell? ⟨Q, 1, none⟩ = some (.string ⟨a.toArray⟩))) (by kernel_rfl) ?_ (fun hHeld => ?_)
      · exact S5
      refine wpAnyH_take (i := 0) (oi := ⟨some 22, _, _, _, _, _⟩) (v := ?_) rfl (by kernel_rfl) (by kernel_rfl) (by kernel_rfl) (fun _ _ _ h => h) (Or.inl ⟨by rfl, ?_⟩) (by assumption) ?_
      rotate_left
      · (intro wq hSw; (try dsimp only at hSw); go_simp; try with_reducible rfl)
      try simp only [Act.put, List.setIfInBounds_toArray, List.set_cons_zero, List.set_cons_succ]
      refine wpAnyH_take (i := 1) (oi := ⟨some 23, _, _, _, _, _⟩) (v := ?_) rfl (by kernel_rfl) (by kernel_rfl) (by kernel_rfl) (fun _ _ _ h => h) (Or.inl ⟨by rfl, ?_⟩) (by assumption) ?_
      rotate_left
      · (intro wq hSw; (try dsimp only at hSw); go_simp; try with_reducible rfl)
      try simp only [Act.put, List.setIfInBounds_toArray, List.set_cons_zero, List.set_cons_succ]
      refine wpAnyH_take (i := 2) (oi := ⟨some 24, _, _, _, _, _⟩) (v := ?_) rfl (by kernel_rfl) (by kernel_rfl) (by kernel_rfl) (fun _ _ _ h => h) (Or.inl ⟨by rfl, ?_⟩) (by assumption) ?_
      rotate_left
      · (intro wq hSw; (try dsimp only at hSw); go_simp; try with_reducible rfl)
      try simp only [Act.put, List.setIfInBounds_toArray, List.set_cons_zero, List.set_cons_succ]
      refine wpAnyH_take (i := 3) (oi := ⟨some 25, _, _, _, _, _⟩) (v := ?_) rfl (by kernel_rfl) (by kernel_rfl) (by kernel_rfl) (fun _ _ _ h => h) (Or.inl ⟨by rfl, ?_⟩) (by assumption) ?_
      rotate_left
      · (intro wq hSw; (try dsimp only at hSw); go_simp; try with_reducible rfl)
      try simp only [Act.put, List.setIfInBounds_toArray, List.set_cons_zero, List.set_cons_succ]
      refine wpAnyH_take (i := 4) (oi := ⟨some 26, _, _, _, _, _⟩) (v := ?_) rfl (by kernel_rfl) (by kernel_rfl) (by kernel_rfl) (fun _ _ _ h => h) (Or.inl ⟨by rfl, ?_⟩) (by assumption) ?_
      rotate_left
      · (intro wq hSw; (try dsimp only at hSw); go_simp; try with_reducible rfl)
      try simp only [Act.put, List.setIfInBounds_toArray, List.set_cons_zero, List.set_cons_succ]
      refine wpAnyH_take (i := 6) (oi := ⟨some 28, _, _, _, _, _⟩) (v := ?_) rfl (by kernel_rfl) (by kernel_rfl) (by kernel_rfl) (fun _ _ _ h => h) (Or.inl ⟨by rfl, ?_⟩) (by assumption) ?_
      rotate_left
      · (intro wq hSw; (try dsimp only at hSw); go_simp; try with_reducible rfl)
      try simp only [Act.put, List.setIfInBounds_toArray, List.set_cons_zero, List.set_cons_succ]
      refine wpAnyH_ready (rs := [5]) (by kernel_rfl) (by simp) ?_
      refine AllReadyH.cons (o := ⟨some 27, _, _, _, _, _⟩) rfl (fun K hK => ?_) AllReadyH.nil
      go_simp
      refine hK.out _ _ hHeld (fun hHeld => ?_)
      clear hK K
      try simp only [Act.put, List.setIfInBounds_toArray, List.set_cons_zero, List.set_cons_succ]
      refine wpAnyH_take (i := 7) (oi := ⟨some 29, _, _, _, _, _⟩) (v := ?_) rfl (by kernel_rfl) (by kernel_rfl) (by kernel_rfl) (fun _ _ _ h => h) (Or.inl ⟨by rfl, ?_⟩) (by assumption) ?_
      rotate_left
      · (intro wq hSw; (try dsimp only at hSw); go_simp; try with_reducible rfl)
      try simp only [Act.put, List.setIfInBounds_toArray, List.set_cons_zero, List.set_cons_succ]
      refine wpAnyH_done (by kernel_rfl) ?_ _
      go_wp2_with fail
      go_ret
      exact ⟨by rw [HR.out]; rfl, by rw [HS.out]; exact (h2.mono (by omega)).drew, k2.drew⟩
    · have HR : Hid (burnE s a d v = 0) := by rw [Hid, hE, if_neg ho]
      have HS : Hid (burnS s a d v = ⟨upd2 s.bal d a (subM (s.bal d a) v), upd1 s.sup d (subM (s.sup d) v)⟩) := by rw [Hid]; unfold burnS; rw [if_pos HR.out]
      have eo : decide (s.bal d a < v) = false := decide_eq_false ho
      have hv2 : v ≤ 18446744073709551615 := by have := hv.lt; omega
      have hx := subM_wrap (s.bal d a) v hv2
      have hy := subM_wrap (s.sup d) v hv2
      obtain ⟨st, wE, w3, e1, e2, e3, e4, hm3, hg3, hce⟩ := h2.drew.drew.mp.turn2 hd9 ha9 (by unfold maxLen; omega) (subM_u (s.bal d a) v)
      have h3 := h2.drew.drew.bals hg3 hm3
      have k3 : Keeps (Two mb ms) w w3 := World.grownBy.keepsM k2.drew.drew hg3
      have q3 := q2.drew.drew.keepS (grown_keeps hg3) (h2.mp.not_cells q2)
      have S7 : W2.drew.drew.cell? ⟨b, 0, none⟩ = some (.map (some mb)) ∧ W2.drew.drew.cell? ⟨Q, 0, none⟩ = some (.string ⟨d.toArray⟩) ∧ W2.drew.drew.cell? ⟨Q, 1, none⟩ = some (.string ⟨a.toArray⟩) := ⟨h2.drew.cells.1, q2.cells.1, q2.cells.2⟩
      have S7E : wE.cell? ⟨b, 0, none⟩ = some (.map (some mb)) ∧ wE.cell? ⟨Q, 0, none⟩ = some (.string ⟨d.toArray⟩) ∧ wE.cell? ⟨Q, 1, none⟩ = some (.string ⟨a.toArray⟩) :=
        ⟨(hce ⟨b, 0, none⟩ (h2.mp.not_cells h2.blk)).trans S7.1, (hce ⟨Q, 0, none⟩ (h2.mp.not_cells q2)).trans S7.2.1, (hce ⟨Q, 1, none⟩ (h2.mp.not_cells q2)).trans S7.2.2⟩
      have S73 : w3.cell? ⟨b, 0, none⟩ = some (.map (some mb)) ∧ w3.cell? ⟨Q, 0, none⟩ = some (.string ⟨d.toArray⟩) ∧ w3.cell? ⟨Q, 1, none⟩ = some (.string ⟨a.toArray⟩) := ⟨h3.cells.1, q3.cells.1, q3.cells.2⟩
      have hL8 := h3.su.look hd9
      obtain ⟨w4, hU, hm4, hg4⟩ := h3.su.put hd9 (subM_u (s.sup d) v) (by unfold maxLen; omega)
      have H4 := Lib.hid (h3.sups hg4 hm4)
      have K4 := Lib.hid (World.grownBy.keepsS k3 hg4)
      have c8 := h3.cells
      clear hE hc ho hce hg3 hm3 hg4 hm4 h3 k3 q3 h2 k2 q2
      simp only at e1 e2 e3 hL8 hU
      generalize upd2 s.bal d a (subM (s.bal d a) v) = f2 at *
      generalize upd1 s.sup d (subM (s.sup d) v) = f1 at *
      generalize subM (s.bal d a) v = z at *
      generalize subM (s.sup d) v = zy at *
      generalize s.bal d a = x at *
      generalize s.sup d = y at *
      go_wp2_with fail
      refine wp_region_held_drew (S := (fun w' => w'.cell? ⟨b, 0, none⟩ = some (.map (some mb)) ∧ w'.cell? ⟨Q, 0, none⟩ = some (.string ⟨d.toArray⟩) ∧ w'.cell? ⟨Q, 1, none⟩ = some (.string ⟨a.toArray⟩))) (by kernel_rfl) ?_ (fun hHeld => ?_)
      · exact S5
      refine wpAnyH_take (i := 0) (oi := ⟨some 22, _, _, _, _, _⟩) (v := ?_) rfl (by kernel_rfl) (by kernel_rfl) (by kernel_rfl) (fun _ _ _ h => h) (Or.inl ⟨by rfl, ?_⟩) (by assumption) ?_
      rotate_left
      · (intro wq hSw; (try dsimp only at hSw); go_simp; try with_reducible rfl)
      try simp only [Act.put, List.setIfInBounds_toArray, List.set_cons_zero, List.set_cons_succ]
      refine wpAnyH_take (i := 1) (oi := ⟨some 23, _, _, _, _, _⟩) (v := ?_) rfl (by kernel_rfl) (by kernel_rfl) (by kernel_rfl) (fun _ _ _ h => h) (Or.inl ⟨by rfl, ?_⟩) (by assumption) ?_
      rotate_left
      · (intro wq hSw; (try dsimp only at hSw); go_simp; try with_reducible rfl)
      try simp only [Act.put, List.setIfInBounds_toArray, List.set_cons_zero, List.set_cons_succ]
      refine wpAnyH_take (i := 2) (oi := ⟨some 24, _, _, _, _, _⟩) (v := ?_) rfl (by kernel_rfl) (by kernel_rfl) (by kernel_rfl) (fun _ _ _ h => h) (Or.inl ⟨by rfl, ?_⟩) (by assumption) ?_
      rotate_left
      · (intro wq hSw; (try dsimp only at hSw); go_simp; try with_reducible rfl)
      try simp only [Act.put, List.setIfInBounds_toArray, List.set_cons_zero, List.set_cons_succ]
      refine wpAnyH_take (i := 3) (oi := ⟨some 25, _, _, _, _, _⟩) (v := ?_) rfl (by kernel_rfl) (by kernel_rfl) (by kernel_rfl) (fun _ _ _ h => h) (Or.inl ⟨by rfl, ?_⟩) (by assumption) ?_
      rotate_left
      · (intro wq hSw; (try dsimp only at hSw); go_simp; try with_reducible rfl)
      try simp only [Act.put, List.setIfInBounds_toArray, List.set_cons_zero, List.set_cons_succ]
      refine wpAnyH_take (i := 4) (oi := ⟨some 26, _, _, _, _, _⟩) (v := ?_) rfl (by kernel_rfl) (by kernel_rfl) (by kernel_rfl) (fun _ _ _ h => h) (Or.inl ⟨by rfl, ?_⟩) (by assumption) ?_
      rotate_left
      · (intro wq hSw; (try dsimp only at hSw); go_simp; try with_reducible rfl)
      try simp only [Act.put, List.setIfInBounds_toArray, List.set_cons_zero, List.set_cons_succ]
      refine wpAnyH_take (i := 6) (oi := ⟨some 28, _, _, _, _, _⟩) (v := ?_) rfl (by kernel_rfl) (by kernel_rfl) (by kernel_rfl) (fun _ _ _ h => h) (Or.inl ⟨by rfl, ?_⟩) (by assumption) ?_
      rotate_left
      · (intro wq hSw; (try dsimp only at hSw); go_simp; try with_reducible rfl)
      try simp only [Act.put, List.setIfInBounds_toArray, List.set_cons_zero, List.set_cons_succ]
      refine wpAnyH_ready (rs := [5]) (by kernel_rfl) (by simp) ?_
      refine AllReadyH.cons (o := ⟨some 27, _, _, _, _, _⟩) rfl (fun K hK => ?_) AllReadyH.nil
      go_simp
      refine hK.out _ _ hHeld (fun hHeld => ?_)
      clear hK K
      try simp only [Act.put, List.setIfInBounds_toArray, List.set_cons_zero, List.set_cons_succ]
      refine wpAnyH_take (i := 7) (oi := ⟨some 29, _, _, _, _, _⟩) (v := ?_) rfl (by kernel_rfl) (by kernel_rfl) (by kernel_rfl) (fun _ _ _ h => h) (Or.inl ⟨by rfl, ?_⟩) (by assumption) ?_
      rotate_left
      · (intro wq hSw; (try dsimp only at hSw); go_simp; try with_reducible rfl)
      try simp only [Act.put, List.setIfInBounds_toArray, List.set_cons_zero, List.set_cons_succ]
      refine wpAnyH_done (by kernel_rfl) ?_ _
      clear hHeld hL5 S5
      go_wp2_with fail
      refine wp_region_held_drew (S := (fun w' => w'.cell? ⟨b, 0, none⟩ = some (.map (some mb)) ∧ w'.cell? ⟨Q, 0, none⟩ = some (.string ⟨d.toArray⟩) ∧ w'.cell? ⟨Q, 1, none⟩ = some (.string ⟨a.toArray⟩))) (by kernel_rfl) ?_ (fun hHeld => ?_)
      · exact S7
      refine wpAnyH_take (i := 0) (oi := ⟨some 30, _, _, _, _, _⟩) (v := ?_) rfl (by kernel_rfl) (by kernel_rfl) (by kernel_rfl) (fun _ _ _ h => h) (Or.inl ⟨by rfl, ?_⟩) (by assumption) ?_
      rotate_left
      · (intro wq hSw; (try dsimp only at hSw); go_simp; try with_reducible rfl)
      try simp only [Act.put, List.setIfInBounds_toArray, List.set_cons_zero, List.set_cons_succ]
      refine wpAnyH_take (i := 1) (oi := ⟨some 31, _, _, _, _, _⟩) (v := ?_) rfl (by kernel_rfl) (by kernel_rfl) (by kernel_rfl) (fun _ _ _ h => h) (Or.inl ⟨by rfl, ?_⟩) (by assumption) ?_
      rotate_left
      · (intro wq hSw; (try dsimp only at hSw); go_simp; try with_reducible rfl)
      try simp only [Act.put, List.setIfInBounds_toArray, List.set_cons_zero, List.set_cons_succ]
      refine wpAnyH_take (i := 2) (oi := ⟨some 32, _, _, _, _, _⟩) (v := ?_) rfl (by kernel_rfl) (by kernel_rfl) (by kernel_rfl) (fun _ _ _ h => h) (Or.inl ⟨by rfl, ?_⟩) (by assumption) ?_
      rotate_left
      · (intro wq hSw; (try dsimp only at hSw); go_simp; try with_reducible rfl)
      try simp only [Act.put, List.setIfInBounds_toArray, List.set_cons_zero, List.set_cons_succ]
      refine wpAnyH_take (i := 3) (oi := ⟨some 33, _, _, _, _, _⟩) (v := ?_) rfl (by kernel_rfl) (by kernel_rfl) (by kernel_rfl) (fun _ _ _ h => h) (Or.inl ⟨by rfl, ?_⟩) (by assumption) ?_
      rotate_left
      · (intro wq hSw; (try dsimp only at hSw); go_simp; try with_reducible rfl)
      try simp only [Act.put, List.setIfInBounds_toArray, List.set_cons_zero, List.set_cons_succ]
      refine wpAnyH_take (i := 4) (oi := ⟨some 34, _, _, _, _, _⟩) (v := ?_) rfl (by kernel_rfl) (by kernel_rfl) (by kernel_rfl) (fun _ _ _ h => h) (Or.inl ⟨by rfl, ?_⟩) (by assumption) ?_
      rotate_left
      · (intro wq hSw; (try dsimp only at hSw); go_simp; try with_reducible rfl)
      try simp only [Act.put, List.setIfInBounds_toArray, List.set_cons_zero, List.set_cons_succ]
      refine wpAnyH_take (i := 6) (oi := ⟨some 36, _, _, _, _, _⟩) (v := ?_) rfl (by kernel_rfl) (by kernel_rfl) (by kernel_rfl) (fun _ _ _ h => h) (Or.inl ⟨by rfl, ?_⟩) (by assumption) ?_
      rotate_left
      · (intro wq hSw; (try dsimp only at hSw); go_simp; try with_reducible rfl)
      try simp only [Act.put, List.setIfInBounds_toArray, List.set_cons_zero, List.set_cons_succ]
      refine wpAnyH_ready (rs := [5, 8]) (by kernel_rfl) (by simp) ?_
      refine AllReadyH.cons (o := ⟨some 35, _, _, _, _, _⟩) rfl (fun K hK => ?_) (AllReadyH.cons (o := ⟨some 38, _, _, _, _, _⟩) rfl (fun K hK => ?_) AllReadyH.nil)
      focus
        go_simp
        refine hK.out _ _ hHeld (fun hHeld => ?_)
        clear hK K
        try simp only [Act.put, List.setIfInBounds_toArray, List.set_cons_zero, List.set_cons_succ]
        refine wpAnyH_take (i := 7) (oi := ⟨some 37, _, _, _, _, _⟩) (v := ?_) rfl (by kernel_rfl) (by kernel_rfl) (by kernel_rfl) (fun _ _ _ h => h) (Or.inl ⟨by rfl, ?_⟩) (by assumption) ?_
        rotate_left
        · (intro wq hSw; (try dsimp only at hSw); go_simp; try with_reducible rfl)
        try simp only [Act.put, List.setIfInBounds_toArray, List.set_cons_zero, List.set_cons_succ]
        refine wpAnyH_ready (rs := [8]) (by kernel_rfl) (by simp) ?_
        refine AllReadyH.cons (o := ⟨some 38, _, _, _, _, _⟩) rfl (fun K hK => ?_) AllReadyH.nil
        go_simp
        refine hK.out _ _ (S7E) (fun hHeld => ?_)
        clear hK K
        try simp only [Act.put, List.setIfInBounds_toArray, List.set_cons_zero, List.set_cons_succ]
        refine wpAnyH_take (i := 9) (oi := ⟨some 39, _, _, _, _, _⟩) (v := ?_) rfl (by kernel_rfl) (by kernel_rfl) (by kernel_rfl) (fun _ _ _ h => h) (Or.inl ⟨by rfl, ?_⟩) (by assumption) ?_
        rotate_left
        · (intro wq hSw; (try dsimp only at hSw); go_simp; try with_reducible rfl)
        try simp only [Act.put, List.setIfInBounds_toArray, List.set_cons_zero, List.set_cons_succ]
        refine wpAnyH_ready (rs := [10]) (by kernel_rfl) (by simp) ?_
        refine AllReadyH.cons (o := ⟨none, _, _, _, _, _⟩) rfl (fun K hK => ?_) AllReadyH.nil
        go_simp
        refine hK.out _ _ (S73) (fun hHeld => ?_)
        clear hK K
        try simp only [Act.put, List.setIfInBounds_toArray, List.set_cons_zero, List.set_cons_succ]
        refine wpAnyH_done (by kernel_rfl) ?_ _
      rotate_left 1
      focus
        go_simp
        refine hK.out _ _ (S7E) (fun hHeld => ?_)
        clear hK K
        try simp only [Act.put, List.setIfInBounds_toArray, List.set_cons_zero, List.set_cons_succ]
        refine wpAnyH_take (i := 9) (oi := ⟨some 39, _, _, _, _, _⟩) (v := ?_) rfl (by kernel_rfl) (by kernel_rfl) (by kernel_rfl) (fun _ _ _ h => h) (Or.inl ⟨by rfl, ?_⟩) (by assumption) ?_
        rotate_left
        · (intro wq hSw; (try dsimp only at hSw); go_simp; try with_reducible rfl)
        try simp only [Act.put, List.setIfInBounds_toArray, List.set_cons_zero, List.set_cons_succ]
        refine wpAnyH_ready (rs := [5]) (by kernel_rfl) (by simp) ?_
        refine AllReadyH.cons (o := ⟨some 35, _, _, _, _, _⟩) rfl (fun K hK => ?_) AllReadyH.nil
        go_simp
        refine hK.out _ _ hHeld (fun hHeld => ?_)
        clear hK K
        try simp only [Act.put, List.setIfInBounds_toArray, List.set_cons_zero, List.set_cons_succ]
        refine wpAnyH_take (i := 7) (oi := ⟨some 37, _, _, _, _, _⟩) (v := ?_) rfl (by kernel_rfl) (by kernel_rfl) (by kernel_rfl) (fun _ _ _ h => h) (Or.inl ⟨by rfl, ?_⟩) (by assumption) ?_
        rotate_left
        · (intro wq hSw; (try dsimp only at hSw); go_simp; try with_reducible rfl)
        try simp only [Act.put, List.setIfInBounds_toArray, List.set_cons_zero, List.set_cons_succ]
        refine wpAnyH_ready (rs := [10]) (by kernel_rfl) (by simp) ?_
        refine AllReadyH.cons (o := ⟨none, _, _, _, _, _⟩) rfl (fun K hK => ?_) AllReadyH.nil
        go_simp
        refine hK.out _ _ (S73) (fun hHeld => ?_)
        clear hK K
        try simp only [Act.put, List.setIfInBounds_toArray, List.set_cons_zero, List.set_cons_succ]
        refine wpAnyH_done (by kernel_rfl) ?_ _
      rotate_left 1
      all_goals
        clear hHeld S7 S7E S73 e1 e2 e3 e4
        go_wp2_with fail
        go_ret
        exact ⟨by rw [HR.out]; rfl, by rw [HS.out]; exact H4.out, K4.out⟩
  · have HR : Hid (burnE s a d v = chkE v d [a]) := by rw [Hid]; unfold burnE; rw [if_neg hc]
    have HS : Hid (burnS s a d v = s) := by rw [Hid]; unfold burnS; rw [HR.out, if_neg hc]
    have e0 : (chkE v d [a] == 0) = false := by simpa using hc
    have e1 : (chkE v d [a] != 0) = true := by simpa using hc
    clear hc hs
    generalize burnE s a d v = out at *
    generalize burnS s a d v = s' at *
    generalize chkE v d [a] = c at *
    go_enter Try.func55, Try.ntmps55
    go_wp2_with fail
    generalize World.alloc w _ = W at *
    generalize w.heap.size = G at *
    refine CK.mono ?_
    rintro e w' ⟨rfl, rfl⟩
    go_wp2_with fail
    go_ret
    exact ⟨by rw [HR.out]; rfl, by rw [HS.out]; exact h1.mono (by omega), k1⟩
end Go.Proofs.Ytcldbipipehedaa
