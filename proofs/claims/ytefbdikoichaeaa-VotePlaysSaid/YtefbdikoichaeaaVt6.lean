/-
  VOTE: May.
-/
import Derived.Test.YtefbdikoichaeaaVt5
import Derived.Deep.QuietTactic
import Derived.BigQuiet
import Derived.Deep.RegionHeld3
namespace Go.Proofs.Ytefbdikoichaeaa
open Go.RowKit
theorem Tr.drewN {w : World} {b g cap : Nat} {l : List Bl} (h : Tr w b g cap l) (n : Nat) : Tr (w.drewN n) b g cap l := ⟨h.blk, h.own, h.ne⟩
theorem Tr.drew {w : World} {b g cap : Nat} {l : List Bl} (h : Tr w b g cap l) : Tr w.drew b g cap l := ⟨h.blk, h.own, h.ne⟩
theorem quiet_left {P : Program} {f : FuncId} {args : Array Value} {w : World} {n : Nat} {v : Value}
    (h : Calls P f args (w.drewN n) fun e w' => e = .returned v ∧ w.drewN n = w') : Calls P f args (w.drewN n) fun e w' => e = .returned v ∧ ∃ m, w' = w.drewN m :=
  h.mono fun _ _ ⟨he, hm⟩ => ⟨he, n, hm.symm⟩
theorem cells2 {w : World} {b : Nat} {c0 c1 : Value} {T : TypeId} (h : w.heap[b]? = some (.cells #[c0, c1] T (0, 0))) :
    (w.cell? ⟨b, 0, none⟩ = some c0 ∧ w.cell? ⟨b, 1, none⟩ = some c1) ∧ w.frozen? ⟨b, 0, none⟩ = false ∧ w.frozen? ⟨b, 1, none⟩ = false := by
  refine ⟨⟨?_, ?_⟩, frozen_blk h 0, frozen_blk h 1⟩ <;> rw [cell_blk h] <;> rfl
/-- where 'at' points -/
def atV (g : Nat) (l : List Bl) (i : Int) : Value := .pointer (if inT l i then some ⟨g, i.toNat * 2, none⟩ else none)
theorem at_any (b g cap : Nat) (l : List Bl) (i : Int) (w : World) (h : Tr w b g cap l) :
    Calls Try.prog 36 #[.pointer (some ⟨b, 0, none⟩), .int .i64 i] w fun e w' => e = .returned (atV g l i) ∧ w = w' := by
  unfold atV
  rcases hi : inT l i with _ | _
  · exact at_out b g cap l i hi w h
  · obtain ⟨n, rfl, hn⟩ := inT_iff hi
    exact at_in b g cap l n hn w h
theorem atV_in (g : Nat) {l : List Bl} {n : Nat} (h : n < l.length) : atV g l n = .pointer (some ⟨g, n * 2, none⟩) := by unfold atV; rw [inT_nat h]; rfl
theorem atV_out (g : Nat) {l : List Bl} {i : Int} (h : inT l i = false) : atV g l i = .pointer none := by unfold atV; rw [h]; rfl

set_option maxHeartbeats 2000000 in
theorem may_out (b g cap : Nat) (l : List Bl) (voted : Nat) (lock i : Int) (w : World) (h : Tr w b g cap l) (hno : inT l i = false ∨ inT l lock = false) :
    Calls Try.prog 25 #[.pointer (some ⟨b, 0, none⟩), .agg #[.int .u64 voted, .int .i64 lock], .int .i64 i] w fun e w' => e = .returned (.bool false) ∧ New w w' := by
  have n0 := (New.refl w).alloc (.cells #[.int .u64 voted, .int .i64 lock] 43)
  have T0 := h.keep n0
  have b0 := heap_alloc_new w (.cells #[.int .u64 voted, .int .i64 lock] 43)
  rcases hi : inT l i with _ | _
  · have ai := atV_out g hi
    rcases hk : inT l lock with _ | _
    · have ak := atV_out g hk
      clear hno hi hk
      go_enter Try.func25, Try.ntmps25
      go_wp2_with fail
      generalize World.alloc w _ = W at *
      generalize w.heap.size = V at *
      have c0 := cells2 b0
      have H1 := fun m => quiet_left (at_any b g cap l i (W.drewN m) (T0.drewN m))
      have H2 := fun m => quiet_left (at_any b g cap l lock (W.drewN m) (T0.drewN m))
      rw [ai] at H1
      rw [ak] at H2
      clear ai ak
      go_quiet ((go_at_call 36; first | with_reducible exact H1 _ | with_reducible exact H2 _))
      go_wp2_with fail
      go_quiet (fail)
      go_wp2_with fail
      go_ret
      exact ⟨rfl, (n0.drewN _).drewN _⟩
    · obtain ⟨k, rfl, hk'⟩ := inT_iff hk
      have ak := atV_in g hk'
      clear hno hi hk
      go_enter Try.func25, Try.ntmps25
      go_wp2_with fail
      generalize World.alloc w _ = W at *
      generalize w.heap.size = V at *
      have c0 := cells2 b0
      have H1 := fun m => quiet_left (at_any b g cap l i (W.drewN m) (T0.drewN m))
      have H2 := fun m => quiet_left (at_any b g cap l k (W.drewN m) (T0.drewN m))
      rw [ai] at H1
      rw [ak] at H2
      clear ai ak
      go_quiet ((go_at_call 36; first | with_reducible exact H1 _ | with_reducible exact H2 _))
      go_wp2_with fail
      go_quiet (fail)
      go_wp2_with fail
      go_ret
      exact ⟨rfl, (n0.drewN _).drewN _⟩
  · have hk : inT l lock = false := by rcases hno with e | e; · rw [e] at hi; cases hi
                                       · exact e
    obtain ⟨n, rfl, hn⟩ := inT_iff hi
    have ai := atV_in g hn
    have ak := atV_out g hk
    clear hno hi hk
    go_enter Try.func25, Try.ntmps25
    go_wp2_with fail
    generalize World.alloc w _ = W at *
    generalize w.heap.size = V at *
    have c0 := cells2 b0
    have H1 := fun m => quiet_left (at_any b g cap l n (W.drewN m) (T0.drewN m))
    have H2 := fun m => quiet_left (at_any b g cap l lock (W.drewN m) (T0.drewN m))
    rw [ai] at H1
    rw [ak] at H2
    clear ai ak
    go_quiet ((go_at_call 36; first | with_reducible exact H1 _ | with_reducible exact H2 _))
    go_wp2_with fail
    go_quiet (fail)
    go_wp2_with fail
    go_ret
    exact ⟨rfl, (n0.drewN _).drewN _⟩
set_option maxHeartbeats 2000000 in
theorem may_no (b g cap : Nat) (l : List Bl) (voted lock n : Nat) (hk : lock < l.length) (hn : n < l.length) (w : World) (h : Tr w b g cap l)
    (hno : n = 0 ∨ vw l n ≤ voted) :
    Calls Try.prog 25 #[.pointer (some ⟨b, 0, none⟩), .agg #[.int .u64 voted, .int .i64 lock], .int .i64 n] w fun e w' => e = .returned (.bool false) ∧ New w w' := by
  have n0 := (New.refl w).alloc (.cells #[.int .u64 voted, .int .i64 lock] 43)
  have T0 := h.keep n0
  have b0 := heap_alloc_new w (.cells #[.int .u64 voted, .int .i64 lock] 43)
  by_cases hz : n = 0
  · clear hno
    have e0 : ((n : Int) == 0) = true := by simp [hz]
    clear hz
    go_enter Try.func25, Try.ntmps25
    go_wp2_with fail
    generalize World.alloc w _ = W at *
    generalize w.heap.size = V at *
    have c0 := cells2 b0
    have H1 := fun m => quiet_left (at_in b g cap l n hn (W.drewN m) (T0.drewN m))
    have H2 := fun m => quiet_left (at_in b g cap l lock hk (W.drewN m) (T0.drewN m))
    go_quiet ((go_at_call 36; first | with_reducible exact H1 _ | with_reducible exact H2 _))
    go_wp2_with fail
    go_quiet (fail)
    go_wp2_with fail
    go_ret
    exact ⟨rfl, (n0.drewN _).drewN _⟩
  · have hv : vw l n ≤ voted := by omega
    clear hno
    have e0 : ((n : Int) == 0) = false := by simp [hz]
    clear hz
    have e1 : decide (vw l n ≤ voted) = true := by simp [hv]
    go_enter Try.func25, Try.ntmps25
    go_wp2_with fail
    generalize World.alloc w _ = W at *
    generalize w.heap.size = V at *
    have c0 := cells2 b0
    have d := T0.at n hn
    have H1 := fun m => quiet_left (at_in b g cap l n hn (W.drewN m) (T0.drewN m))
    have H2 := fun m => quiet_left (at_in b g cap l lock hk (W.drewN m) (T0.drewN m))
    go_quiet ((go_at_call 36; first | with_reducible exact H1 _ | with_reducible exact H2 _))
    go_wp2_with fail
    go_quiet (fail)
    go_wp2_with fail
    go_ret
    exact ⟨rfl, (n0.drewN _).drewN _⟩
set_option maxHeartbeats 2000000 in
theorem may_yes (b g cap : Nat) (l : List Bl) (voted lock n : Nat) (hk : lock < l.length) (hn : n < l.length) (w : World) (hw : WfT l) (h : Tr w b g cap l)
    (hz : n ≠ 0) (hv : voted < vw l n) :
    Calls Try.prog 25 #[.pointer (some ⟨b, 0, none⟩), .agg #[.int .u64 voted, .int .i64 lock], .int .i64 n] w fun e w' => e = .returned (.bool (decide (vw l lock < vw l (pr l n)) || extB l lock n)) ∧ New w w' := by
  have n0 := (New.refl w).alloc (.cells #[.int .u64 voted, .int .i64 lock] 43)
  have T0 := h.keep n0
  have b0 := heap_alloc_new w (.cells #[.int .u64 voted, .int .i64 lock] 43)
  have e0 : ((n : Int) == 0) = false := by simp [hz]
  have e1 : decide (vw l n ≤ voted) = false := by simp [hv]
  have hl := hw.len
  have hpn := hw.pr_lt hn
  have A3 := fun w => parent_any (vw l n) (ht l n) (pr l n) (by omega) w
  go_enter Try.func25, Try.ntmps25
  go_wp2_with fail
  generalize World.alloc w _ = W at *
  generalize w.heap.size = V at *
  have c0 := cells2 b0
  have d := T0.at n hn
  have H1 := fun m => quiet_left (at_in b g cap l n hn (W.drewN m) (T0.drewN m))
  have H2 := fun m => quiet_left (at_in b g cap l lock hk (W.drewN m) (T0.drewN m))
  go_quiet ((go_at_call 36; first | with_reducible exact H1 _ | with_reducible exact H2 _))
  have n1 := n0.drewN nq
  have T1 := T0.drewN nq
  have b1 : (W.drewN nq).heap[V]? = _ := b0
  generalize World.drewN W nq = W1 at *
  clear H1 H2 n0 T0 b0 c0 d
  have c0 := cells2 b1
  have d := T1.at n hn
  go_wp2_with fail
  go_quiet (fail)
  go_wp2_with fail
  have n2 := n1.drewN nq
  have T2 := T1.drewN nq
  have b2 : (W1.drewN nq).heap[V]? = _ := b1
  generalize World.drewN W1 nq = W2 at *
  clear n1 T1 b1 c0 d
  have SK : ∀ wa wb : World, (New w wa ∧ Tr wa b g cap l ∧ wa.heap[V]? = some (.cells #[.int .u64 voted, .int .i64 lock] 43 (0, 0))) → New wa wb → (New w wb ∧ Tr wb b g cap l ∧ wb.heap[V]? = some (.cells #[.int .u64 voted, .int .i64 lock] 43 (0, 0))) :=
    fun wa wb h k => ⟨h.1.then k (fun _ h => h.elim), h.2.1.keep k, k.kept h.2.2 (fun h => h)⟩
  by_cases hg : vw l lock < vw l (pr l n)
  · have hgd : decide (vw l lock < vw l (pr l n)) = true := by simp [hg]
    refine wp_region_held_drew (S := (fun w' => New w w' ∧ Tr w' b g cap l ∧ w'.heap[V]? = some (.cells #[.int .u64 voted, .int .i64 lock] 43 (0, 0)))) (by kernel_rfl) ?_ (fun hHeld => ?_)
    · exact ⟨n2.drew, T2.drew, b2⟩
    refine wpAnyH_take (i := 0) (oi := ⟨some 35, _, _, _, _, _⟩) (v := ?_) rfl (by kernel_rfl) (by kernel_rfl) (by kernel_rfl) (fun _ _ _ h => h) (Or.inl ⟨by rfl, ?_⟩) (by assumption) ?_
    rotate_left
    · (intro wq hSw; (try dsimp only at hSw); go_simp; try with_reducible rfl)
    try simp only [Act.put, List.setIfInBounds_toArray, List.set_cons_zero, List.set_cons_succ]
    refine wpAnyH_take (i := 1) (oi := ⟨some 36, _, _, _, _, _⟩) (v := ?_) rfl (by kernel_rfl) (by kernel_rfl) (by kernel_rfl) (fun _ _ _ h => h) (Or.inl ⟨by rfl, ?_⟩) (by assumption) ?_
    rotate_left
    · (intro wq hSw; (try dsimp only at hSw); go_simp; try with_reducible rfl)
    try simp only [Act.put, List.setIfInBounds_toArray, List.set_cons_zero, List.set_cons_succ]
    refine wpAnyH_take (i := 2) (oi := ⟨some 37, _, _, _, _, _⟩) (v := ?_) rfl (by kernel_rfl) (by kernel_rfl) (by kernel_rfl) (fun _ _ _ h => h) (Or.inl ⟨by rfl, ?_⟩) (by assumption) ?_
    rotate_left
    · (intro wq hSw; (try dsimp only at hSw); go_simp; try with_reducible rfl)
    try simp only [Act.put, List.setIfInBounds_toArray, List.set_cons_zero, List.set_cons_succ]
    refine wpAnyH_take (i := 3) (oi := ⟨some 38, _, _, _, _, _⟩) (v := ?_) rfl (by kernel_rfl) (by kernel_rfl) (by kernel_rfl) (fun _ _ _ h => h) (Or.inl ⟨by rfl, ?_⟩) (by assumption) ?_
    rotate_left
    · (intro wq hSw; (try dsimp only at hSw); have d := hSw.2.1.at n hn; go_simp; try with_reducible rfl)
    try simp only [Act.put, List.setIfInBounds_toArray, List.set_cons_zero, List.set_cons_succ]
    refine wpAnyH_take (i := 6) (oi := ⟨some 41, _, _, _, _, _⟩) (v := ?_) rfl (by kernel_rfl) (by kernel_rfl) (by kernel_rfl) (fun _ _ _ h => h) (Or.inl ⟨by rfl, ?_⟩) (by assumption) ?_
    rotate_left
    · (intro wq hSw; (try dsimp only at hSw); go_simp; try with_reducible rfl)
    try simp only [Act.put, List.setIfInBounds_toArray, List.set_cons_zero, List.set_cons_succ]
    refine wpAnyH_take (i := 7) (oi := ⟨some 42, _, _, _, _, _⟩) (v := ?_) rfl (by kernel_rfl) (by kernel_rfl) (by kernel_rfl) (fun _ _ _ h => h) (Or.inl ⟨by rfl, ?_⟩) (by assumption) ?_
    rotate_left
    · (intro wq hSw; (try dsimp only at hSw); go_simp; try with_reducible rfl)
    try simp only [Act.put, List.setIfInBounds_toArray, List.set_cons_zero, List.set_cons_succ]
    refine wpAnyH_take (i := 8) (oi := ⟨some 43, _, _, _, _, _⟩) (v := ?_) rfl (by kernel_rfl) (by kernel_rfl) (by kernel_rfl) (fun _ _ _ h => h) (Or.inl ⟨by rfl, ?_⟩) (by assumption) ?_
    rotate_left
    · (intro wq hSw; (try dsimp only at hSw); go_simp; try with_reducible rfl)
    try simp only [Act.put, List.setIfInBounds_toArray, List.set_cons_zero, List.set_cons_succ]
    refine wpAnyH_take (i := 9) (oi := ⟨some 44, _, _, _, _, _⟩) (v := ?_) rfl (by kernel_rfl) (by kernel_rfl) (by kernel_rfl) (fun _ _ _ h => h) (Or.inl ⟨by rfl, ?_⟩) (by assumption) ?_
    rotate_left
    · (intro wq hSw; (try dsimp only at hSw); have d := hSw.2.1.at lock hk; go_simp; try with_reducible rfl)
    try simp only [Act.put, List.setIfInBounds_toArray, List.set_cons_zero, List.set_cons_succ]
    refine wpAnyH_ready (rs := [4]) (by kernel_rfl) (by simp) ?_
    refine AllReadyH.cons (o := ⟨some 39, _, _, _, _, _⟩) rfl (fun K hK => ?_) AllReadyH.nil
    go_simp
    refine (A3 _).mono ?_; rintro e w3 ⟨rfl, k3⟩
    refine hK.out _ _ (SK _ _ hHeld k3) (fun hHeld => ?_)
    clear hK K
    try simp only [Act.put, List.setIfInBounds_toArray, List.set_cons_zero, List.set_cons_succ]
    refine wpAnyH_ready (rs := [5]) (by kernel_rfl) (by simp) ?_
    refine AllReadyH.cons (o := ⟨some 40, _, _, _, _, _⟩) rfl (fun K hK => ?_) AllReadyH.nil
    go_simp
    refine (view_any b g cap l (pr l n) _ hHeld.2.1).mono ?_; rw [viewI_nat hpn]; rintro e w4 ⟨rfl, rfl⟩
    refine hK.out _ _ hHeld (fun hHeld => ?_)
    clear hK K
    try simp only [Act.put, List.setIfInBounds_toArray, List.set_cons_zero, List.set_cons_succ]
    refine wpAnyH_take (i := 10) (oi := ⟨some 45, _, _, _, _, _⟩) (v := ?_) rfl (by kernel_rfl) (by kernel_rfl) (by kernel_rfl) (fun _ _ _ h => h) (Or.inl ⟨by rfl, ?_⟩) (by assumption) ?_
    rotate_left
    · (intro wq hSw; (try dsimp only at hSw); go_simp; try with_reducible rfl)
    try simp only [Act.put, List.setIfInBounds_toArray, List.set_cons_zero, List.set_cons_succ]
    refine wpAnyH_take (i := 11) (oi := ⟨some 46, _, _, _, _, _⟩) (v := ?_) rfl (by kernel_rfl) (by kernel_rfl) (by kernel_rfl) (fun _ _ _ h => h) (Or.inl ⟨by rfl, ?_⟩) (by assumption) ?_
    rotate_left
    · (intro wq hSw; (try dsimp only at hSw); go_simp; try with_reducible rfl)
    try simp only [Act.put, List.setIfInBounds_toArray, List.set_cons_zero, List.set_cons_succ]
    refine wpAnyH_take (i := 12) (oi := ⟨some 47, _, _, _, _, _⟩) (v := undef) rfl (by kernel_rfl) (by kernel_rfl) (by kernel_rfl) (fun _ _ _ h => h) (Or.inr ⟨by rfl, rfl⟩) (by assumption) ?_
    try simp only [Act.put, List.setIfInBounds_toArray, List.set_cons_zero, List.set_cons_succ]
    refine wpAnyH_take (i := 13) (oi := ⟨some 48, _, _, _, _, _⟩) (v := undef) rfl (by kernel_rfl) (by kernel_rfl) (by kernel_rfl) (fun _ _ _ h => h) (Or.inr ⟨by rfl, rfl⟩) (by assumption) ?_
    try simp only [Act.put, List.setIfInBounds_toArray, List.set_cons_zero, List.set_cons_succ]
    refine wpAnyH_take (i := 14) (oi := ⟨some 49, _, _, _, _, _⟩) (v := undef) rfl (by kernel_rfl) (by kernel_rfl) (by kernel_rfl) (fun _ _ _ h => h) (Or.inr ⟨by rfl, rfl⟩) (by assumption) ?_
    try simp only [Act.put, List.setIfInBounds_toArray, List.set_cons_zero, List.set_cons_succ]
    refine wpAnyH_take (i := 15) (oi := ⟨some 50, _, _, _, _, _⟩) (v := undef) rfl (by kernel_rfl) (by kernel_rfl) (by kernel_rfl) (fun _ _ _ h => h) (Or.inr ⟨by rfl, rfl⟩) (by assumption) ?_
    try simp only [Act.put, List.setIfInBounds_toArray, List.set_cons_zero, List.set_cons_succ]
    refine wpAnyH_take (i := 16) (oi := ⟨some 51, _, _, _, _, _⟩) (v := undef) rfl (by kernel_rfl) (by kernel_rfl) (by kernel_rfl) (fun _ _ _ h => h) (Or.inr ⟨by rfl, rfl⟩) (by assumption) ?_
    try simp only [Act.put, List.setIfInBounds_toArray, List.set_cons_zero, List.set_cons_succ]
    refine wpAnyH_take (i := 17) (oi := ⟨some 52, _, _, _, _, _⟩) (v := ?_) rfl (by kernel_rfl) (by kernel_rfl) (by kernel_rfl) (fun _ _ _ h => h) (Or.inl ⟨by rfl, ?_⟩) (by assumption) ?_
    rotate_left
    · (intro wq hSw; (try dsimp only at hSw); go_simp; try with_reducible rfl)
    try simp only [Act.put, List.setIfInBounds_toArray, List.set_cons_zero, List.set_cons_succ]
    refine wpAnyH_take (i := 18) (oi := ⟨some 6, _, _, _, _, _⟩) (v := ?_) rfl (by kernel_rfl) (by kernel_rfl) (by kernel_rfl) (fun _ _ _ h => h) (Or.inl ⟨by rfl, ?_⟩) (by assumption) ?_
    rotate_left
    · (intro wq hSw; (try dsimp only at hSw); go_simp; try with_reducible rfl)
    try simp only [Act.put, List.setIfInBounds_toArray, List.set_cons_zero, List.set_cons_succ]
    refine wpAnyH_done (by kernel_rfl) ?_ _
    have n3 := hHeld.1
    go_wp2_with fail
    go_ret
    exact ⟨by simp [hg], n3⟩
  · have hgd : decide (vw l lock < vw l (pr l n)) = false := by simp [hg]
    refine wp_region_held_drew (S := (fun w' => New w w' ∧ Tr w' b g cap l ∧ w'.heap[V]? = some (.cells #[.int .u64 voted, .int .i64 lock] 43 (0, 0)))) (by kernel_rfl) ?_ (fun hHeld => ?_)
    · exact ⟨n2.drew, T2.drew, b2⟩
    refine wpAnyH_take (i := 0) (oi := ⟨some 35, _, _, _, _, _⟩) (v := ?_) rfl (by kernel_rfl) (by kernel_rfl) (by kernel_rfl) (fun _ _ _ h => h) (Or.inl ⟨by rfl, ?_⟩) (by assumption) ?_
    rotate_left
    · (intro wq hSw; (try dsimp only at hSw); go_simp; try with_reducible rfl)
    try simp only [Act.put, List.setIfInBounds_toArray, List.set_cons_zero, List.set_cons_succ]
    refine wpAnyH_take (i := 1) (oi := ⟨some 36, _, _, _, _, _⟩) (v := ?_) rfl (by kernel_rfl) (by kernel_rfl) (by kernel_rfl) (fun _ _ _ h => h) (Or.inl ⟨by rfl, ?_⟩) (by assumption) ?_
    rotate_left
    · (intro wq hSw; (try dsimp only at hSw); go_simp; try with_reducible rfl)
    try simp only [Act.put, List.setIfInBounds_toArray, List.set_cons_zero, List.set_cons_succ]
    refine wpAnyH_take (i := 2) (oi := ⟨some 37, _, _, _, _, _⟩) (v := ?_) rfl (by kernel_rfl) (by kernel_rfl) (by kernel_rfl) (fun _ _ _ h => h) (Or.inl ⟨by rfl, ?_⟩) (by assumption) ?_
    rotate_left
    · (intro wq hSw; (try dsimp only at hSw); go_simp; try with_reducible rfl)
    try simp only [Act.put, List.setIfInBounds_toArray, List.set_cons_zero, List.set_cons_succ]
    refine wpAnyH_take (i := 3) (oi := ⟨some 38, _, _, _, _, _⟩) (v := ?_) rfl (by kernel_rfl) (by kernel_rfl) (by kernel_rfl) (fun _ _ _ h => h) (Or.inl ⟨by rfl, ?_⟩) (by assumption) ?_
    rotate_left
    · (intro wq hSw; (try dsimp only at hSw); have d := hSw.2.1.at n hn; go_simp; try with_reducible rfl)
    try simp only [Act.put, List.setIfInBounds_toArray, List.set_cons_zero, List.set_cons_succ]
    refine wpAnyH_take (i := 6) (oi := ⟨some 41, _, _, _, _, _⟩) (v := ?_) rfl (by kernel_rfl) (by kernel_rfl) (by kernel_rfl) (fun _ _ _ h => h) (Or.inl ⟨by rfl, ?_⟩) (by assumption) ?_
    rotate_left
    · (intro wq hSw; (try dsimp only at hSw); go_simp; try with_reducible rfl)
    try simp only [Act.put, List.setIfInBounds_toArray, List.set_cons_zero, List.set_cons_succ]
    refine wpAnyH_take (i := 7) (oi := ⟨some 42, _, _, _, _, _⟩) (v := ?_) rfl (by kernel_rfl) (by kernel_rfl) (by kernel_rfl) (fun _ _ _ h => h) (Or.inl ⟨by rfl, ?_⟩) (by assumption) ?_
    rotate_left
    · (intro wq hSw; (try dsimp only at hSw); go_simp; try with_reducible rfl)
    try simp only [Act.put, List.setIfInBounds_toArray, List.set_cons_zero, List.set_cons_succ]
    refine wpAnyH_take (i := 8) (oi := ⟨some 43, _, _, _, _, _⟩) (v := ?_) rfl (by kernel_rfl) (by kernel_rfl) (by kernel_rfl) (fun _ _ _ h => h) (Or.inl ⟨by rfl, ?_⟩) (by assumption) ?_
    rotate_left
    · (intro wq hSw; (try dsimp only at hSw); go_simp; try with_reducible rfl)
    try simp only [Act.put, List.setIfInBounds_toArray, List.set_cons_zero, List.set_cons_succ]
    refine wpAnyH_take (i := 9) (oi := ⟨some 44, _, _, _, _, _⟩) (v := ?_) rfl (by kernel_rfl) (by kernel_rfl) (by kernel_rfl) (fun _ _ _ h => h) (Or.inl ⟨by rfl, ?_⟩) (by assumption) ?_
    rotate_left
    · (intro wq hSw; (try dsimp only at hSw); have d := hSw.2.1.at lock hk; go_simp; try with_reducible rfl)
    try simp only [Act.put, List.setIfInBounds_toArray, List.set_cons_zero, List.set_cons_succ]
    refine wpAnyH_ready (rs := [4]) (by kernel_rfl) (by simp) ?_
    refine AllReadyH.cons (o := ⟨some 39, _, _, _, _, _⟩) rfl (fun K hK => ?_) AllReadyH.nil
    go_simp
    refine (A3 _).mono ?_; rintro e w3 ⟨rfl, k3⟩
    refine hK.out _ _ (SK _ _ hHeld k3) (fun hHeld => ?_)
    clear hK K
    try simp only [Act.put, List.setIfInBounds_toArray, List.set_cons_zero, List.set_cons_succ]
    refine wpAnyH_ready (rs := [5]) (by kernel_rfl) (by simp) ?_
    refine AllReadyH.cons (o := ⟨some 40, _, _, _, _, _⟩) rfl (fun K hK => ?_) AllReadyH.nil
    go_simp
    refine (view_any b g cap l (pr l n) _ hHeld.2.1).mono ?_; rw [viewI_nat hpn]; rintro e w4 ⟨rfl, rfl⟩
    refine hK.out _ _ hHeld (fun hHeld => ?_)
    clear hK K
    try simp only [Act.put, List.setIfInBounds_toArray, List.set_cons_zero, List.set_cons_succ]
    refine wpAnyH_take (i := 10) (oi := ⟨some 45, _, _, _, _, _⟩) (v := ?_) rfl (by kernel_rfl) (by kernel_rfl) (by kernel_rfl) (fun _ _ _ h => h) (Or.inl ⟨by rfl, ?_⟩) (by assumption) ?_
    rotate_left
    · (intro wq hSw; (try dsimp only at hSw); go_simp; try with_reducible rfl)
    try simp only [Act.put, List.setIfInBounds_toArray, List.set_cons_zero, List.set_cons_succ]
    refine wpAnyH_take (i := 11) (oi := ⟨some 46, _, _, _, _, _⟩) (v := ?_) rfl (by kernel_rfl) (by kernel_rfl) (by kernel_rfl) (fun _ _ _ h => h) (Or.inl ⟨by rfl, ?_⟩) (by assumption) ?_
    rotate_left
    · (intro wq hSw; (try dsimp only at hSw); go_simp; try with_reducible rfl)
    try simp only [Act.put, List.setIfInBounds_toArray, List.set_cons_zero, List.set_cons_succ]
    refine wpAnyH_take (i := 12) (oi := ⟨some 47, _, _, _, _, _⟩) (v := ?_) rfl (by kernel_rfl) (by kernel_rfl) (by kernel_rfl) (fun _ _ _ h => h) (Or.inl ⟨by rfl, ?_⟩) (by assumption) ?_
    rotate_left
    · (intro wq hSw; (try dsimp only at hSw); go_simp; try with_reducible rfl)
    try simp only [Act.put, List.setIfInBounds_toArray, List.set_cons_zero, List.set_cons_succ]
    refine wpAnyH_take (i := 13) (oi := ⟨some 48, _, _, _, _, _⟩) (v := ?_) rfl (by kernel_rfl) (by kernel_rfl) (by kernel_rfl) (fun _ _ _ h => h) (Or.inl ⟨by rfl, ?_⟩) (by assumption) ?_
    rotate_left
    · (intro wq hSw; (try dsimp only at hSw); go_simp; try with_reducible rfl)
    try simp only [Act.put, List.setIfInBounds_toArray, List.set_cons_zero, List.set_cons_succ]
    refine wpAnyH_take (i := 14) (oi := ⟨some 49, _, _, _, _, _⟩) (v := ?_) rfl (by kernel_rfl) (by kernel_rfl) (by kernel_rfl) (fun _ _ _ h => h) (Or.inl ⟨by rfl, ?_⟩) (by assumption) ?_
    rotate_left
    · (intro wq hSw; (try dsimp only at hSw); have d := cells2 hSw.2.2; go_simp; try with_reducible rfl)
    try simp only [Act.put, List.setIfInBounds_toArray, List.set_cons_zero, List.set_cons_succ]
    refine wpAnyH_take (i := 15) (oi := ⟨some 50, _, _, _, _, _⟩) (v := ?_) rfl (by kernel_rfl) (by kernel_rfl) (by kernel_rfl) (fun _ _ _ h => h) (Or.inl ⟨by rfl, ?_⟩) (by assumption) ?_
    rotate_left
    · (intro wq hSw; (try dsimp only at hSw); go_simp; try with_reducible rfl)
    try simp only [Act.put, List.setIfInBounds_toArray, List.set_cons_zero, List.set_cons_succ]
    refine wpAnyH_ready (rs := [16]) (by kernel_rfl) (by simp) ?_
    refine AllReadyH.cons (o := ⟨some 51, _, _, _, _, _⟩) rfl (fun K hK => ?_) AllReadyH.nil
    go_simp
    refine (ext_any b g cap l lock n hk hn _ hw hHeld.2.1).mono ?_; rintro e w5 ⟨rfl, k5⟩
    refine hK.out _ _ (SK _ _ hHeld k5) (fun hHeld => ?_)
    clear hK K
    try simp only [Act.put, List.setIfInBounds_toArray, List.set_cons_zero, List.set_cons_succ]
    refine wpAnyH_take (i := 17) (oi := ⟨some 52, _, _, _, _, _⟩) (v := ?_) rfl (by kernel_rfl) (by kernel_rfl) (by kernel_rfl) (fun _ _ _ h => h) (Or.inl ⟨by rfl, ?_⟩) (by assumption) ?_
    rotate_left
    · (intro wq hSw; (try dsimp only at hSw); go_simp; try with_reducible rfl)
    try simp only [Act.put, List.setIfInBounds_toArray, List.set_cons_zero, List.set_cons_succ]
    refine wpAnyH_take (i := 18) (oi := ⟨some 6, _, _, _, _, _⟩) (v := ?_) rfl (by kernel_rfl) (by kernel_rfl) (by kernel_rfl) (fun _ _ _ h => h) (Or.inl ⟨by rfl, ?_⟩) (by assumption) ?_
    rotate_left
    · (intro wq hSw; (try dsimp only at hSw); go_simp; try with_reducible rfl)
    try simp only [Act.put, List.setIfInBounds_toArray, List.set_cons_zero, List.set_cons_succ]
    refine wpAnyH_done (by kernel_rfl) ?_ _
    have n3 := hHeld.1
    go_wp2_with fail
    go_ret
    exact ⟨by simp [hg], n3⟩
/-- May, of whatever numbers -/
theorem may_any (b g cap : Nat) (l : List Bl) (voted : Nat) (lock i : Int) (w : World) (hw : WfT l) (h : Tr w b g cap l) :
    Calls Try.prog 25 #[.pointer (some ⟨b, 0, none⟩), .agg #[.int .u64 voted, .int .i64 lock], .int .i64 i] w fun e w' => e = .returned (.bool (mayI l voted lock i)) ∧ New w w' := by
  by_cases ho : inT l i = false ∨ inT l lock = false
  · have e : mayI l voted lock i = false := by
      unfold mayI
      rcases ho with e | e <;> rw [e] <;> simp
    rw [e]
    exact may_out b g cap l voted lock i w h ho
  · simp only [not_or, Bool.not_eq_false] at ho
    obtain ⟨n, rfl, hn⟩ := inT_iff ho.1
    obtain ⟨k, rfl, hk⟩ := inT_iff ho.2
    rw [mayI_nat hw hk hn]
    by_cases h2 : n = 0 ∨ vw l n ≤ voted
    · have e : (!(n == 0) && decide (voted < vw l n) && (decide (vw l k < vw l (pr l n)) || extB l k n)) = false := by
        rcases h2 with e | e
        · simp [e]
        · rw [decide_eq_false (by omega : ¬ voted < vw l n)]; simp
      rw [e]
      exact may_no b g cap l voted k n hk hn w h h2
    · have h3 : n ≠ 0 := fun e => h2 (.inl e)
      have h4 : voted < vw l n := by omega
      have e : (!(n == 0) && decide (voted < vw l n) && (decide (vw l k < vw l (pr l n)) || extB l k n)) = (decide (vw l k < vw l (pr l n)) || extB l k n) := by
        simp [h3, h4]
      rw [e]
      exact may_yes b g cap l voted k n hk hn w hw h h3 h4
end Go.Proofs.Ytefbdikoichaeaa
