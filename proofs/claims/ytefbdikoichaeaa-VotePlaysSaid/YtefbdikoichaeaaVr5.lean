/-
  VOTE: voussoirref13's May.
-/
import Derived.Test.YtefbdikoichaeaaVr4
namespace Go.Proofs.Ytefbdikoichaeaa
open Go.RowKit
theorem Td.drewN {w : World} {b g cap : Nat} {l : List Bl} (h : Td w b g cap l) (n : Nat) : Td (w.drewN n) b g cap l := ⟨h.blk, h.own, h.ne⟩
set_option maxHeartbeats 2000000 in
theorem mayD_out (b g cap : Nat) (l : List Bl) (voted : Nat) (lock i : Int) (w : World) (h : Td w b g cap l) (hno : inT l i = false ∨ inT l lock = false) :
    Calls Try.prog 26 #[.pointer (some ⟨b, 0, none⟩), .agg #[.int .u64 voted, .int .i64 lock], .int .i64 i] w fun e w' => e = .returned (.bool false) ∧ New w w' := by
  have n0 := (New.refl w).alloc (.cells #[.int .u64 voted, .int .i64 lock] 43)
  have T0 := h.keep n0
  have b0 := heap_alloc_new w (.cells #[.int .u64 voted, .int .i64 lock] 43)
  have H1 := fun w h => hasD b g cap l i w h
  have H2 := fun w h => hasD b g cap l lock w h
  rcases hi : inT l i with _ | _
  · rw [hi] at H1
    clear hno hi H2
    go_enter Try.func26, Try.ntmps26
    go_wp2_with fail
    generalize World.alloc w _ = W at *
    generalize w.heap.size = V at *
    refine (H1 _ T0).mono ?_
    rintro e w' ⟨rfl, rfl⟩
    have c0 := cells2 b0
    go_wp2_with fail
    go_quiet (fail)
    go_wp2_with fail
    go_ret
    exact ⟨rfl, n0.drewN _⟩
  · rw [hi] at H1 hno
    have hk : inT l lock = false := by rcases hno with e | e; · cases e
                                       · exact e
    rw [hk] at H2
    clear hno hi hk
    go_enter Try.func26, Try.ntmps26
    go_wp2_with fail
    generalize World.alloc w _ = W at *
    generalize w.heap.size = V at *
    refine (H1 _ T0).mono ?_
    rintro e w' ⟨rfl, rfl⟩
    have c0 := cells2 b0
    go_wp2_with fail
    refine (H2 _ T0).mono ?_
    rintro e w' ⟨rfl, rfl⟩
    go_wp2_with fail
    go_quiet (fail)
    go_wp2_with fail
    go_ret
    exact ⟨rfl, n0.drewN _⟩
set_option maxHeartbeats 2000000 in
theorem mayD_no (b g cap : Nat) (l : List Bl) (voted lock n : Nat) (hk : lock < l.length) (hn : n < l.length) (w : World) (h : Td w b g cap l)
    (hno : n = 0 ∨ vw l n ≤ voted) :
    Calls Try.prog 26 #[.pointer (some ⟨b, 0, none⟩), .agg #[.int .u64 voted, .int .i64 lock], .int .i64 n] w fun e w' => e = .returned (.bool false) ∧ New w w' := by
  have n0 := (New.refl w).alloc (.cells #[.int .u64 voted, .int .i64 lock] 43)
  have T0 := h.keep n0
  have b0 := heap_alloc_new w (.cells #[.int .u64 voted, .int .i64 lock] 43)
  have H1 := fun w h => hasD b g cap l (n : Nat) w h
  have H2 := fun w h => hasD b g cap l (lock : Nat) w h
  rw [inT_nat hn] at H1
  rw [inT_nat hk] at H2
  by_cases hz : n = 0
  · clear hno
    have e0 : ((n : Int) == 0) = true := by simp [hz]
    clear hz hn hk
    go_enter Try.func26, Try.ntmps26
    go_wp2_with fail
    generalize World.alloc w _ = W at *
    generalize w.heap.size = V at *
    refine (H1 _ T0).mono ?_
    rintro e w' ⟨rfl, rfl⟩
    have c0 := cells2 b0
    go_wp2_with fail
    refine (H2 _ T0).mono ?_
    rintro e w' ⟨rfl, rfl⟩
    go_wp2_with fail
    go_quiet (fail)
    go_wp2_with fail
    go_ret
    exact ⟨rfl, n0.drewN _⟩
  · have hv : vw l n ≤ voted := by omega
    clear hno
    have e0 : ((n : Int) == 0) = false := by simp [hz]
    clear hz
    have e1 : decide (vw l n ≤ voted) = true := by simp [hv]
    have hn0 : (0 : Int) ≤ (n : Int) := Int.natCast_nonneg _
    have hn1 : (n : Int) < (l.length : Int) := by omega
    go_enter Try.func26, Try.ntmps26
    go_wp2_with fail
    generalize World.alloc w _ = W at *
    generalize w.heap.size = V at *
    refine (H1 _ T0).mono ?_
    rintro e w' ⟨rfl, rfl⟩
    have c0 := cells2 b0
    have d := T0.three hn
    go_wp2_with fail
    refine (H2 _ T0).mono ?_
    rintro e w' ⟨rfl, rfl⟩
    go_wp2_with fail
    go_quiet (fail)
    go_wp2_with fail
    go_ret
    exact ⟨rfl, n0.drewN _⟩
set_option maxHeartbeats 2000000 in
theorem mayD_yes (b g cap : Nat) (l : List Bl) (voted lock n : Nat) (hk : lock < l.length) (hn : n < l.length) (w : World) (hw : WfT l) (h : Td w b g cap l)
    (hz : n ≠ 0) (hv : voted < vw l n) :
    Calls Try.prog 26 #[.pointer (some ⟨b, 0, none⟩), .agg #[.int .u64 voted, .int .i64 lock], .int .i64 n] w fun e w' => e = .returned (.bool (decide (vw l lock < vw l (pr l n)) || extB l lock n)) ∧ New w w' := by
  have n0 := (New.refl w).alloc (.cells #[.int .u64 voted, .int .i64 lock] 43)
  have T0 := h.keep n0
  have b0 := heap_alloc_new w (.cells #[.int .u64 voted, .int .i64 lock] 43)
  have H1 := fun w h => hasD b g cap l (n : Nat) w h
  have H2 := fun w h => hasD b g cap l (lock : Nat) w h
  rw [inT_nat hn] at H1
  rw [inT_nat hk] at H2
  have e0 : ((n : Int) == 0) = false := by simp [hz]
  have e1 : decide (vw l n ≤ voted) = false := by simp [hv]
  have hpn := hw.pr_lt hn
  have hn0 : (0 : Int) ≤ (n : Int) := Int.natCast_nonneg _
  have hn1 : (n : Int) < (l.length : Int) := by omega
  have X := fun w h => extD_in b g cap l lock n hk hn w hw h
  have V1 := fun w h => viewD b g cap l (pr l n : Nat) w h
  have V2 := fun w h => viewD b g cap l (lock : Nat) w h
  rw [viewI_nat hpn] at V1
  rw [viewI_nat hk] at V2
  clear hz hv hpn
  go_enter Try.func26, Try.ntmps26
  go_wp2_with fail
  generalize World.alloc w _ = W at *
  generalize w.heap.size = V at *
  refine (H1 _ T0).mono ?_
  rintro e w' ⟨rfl, rfl⟩
  have c0 := cells2 b0
  have d := T0.three hn
  go_wp2_with fail
  refine (H2 _ T0).mono ?_
  rintro e w' ⟨rfl, rfl⟩
  go_wp2_with fail
  go_quiet (fail)
  have n1 := n0.drewN nq
  have T1 := T0.drewN nq
  have b1 : (W.drewN nq).heap[V]? = _ := b0
  generalize World.drewN W nq = W1 at *
  clear H1 H2 n0 T0 b0 c0 d
  have c0 := cells2 b1
  have d := T1.three hn
  rcases hx : extB l lock n with _ | _
  · rw [hx] at X
    have HX := Lib.hid hx
    clear hx
    have XQ := fun m => quiet_left (X (W1.drewN m) (T1.drewN m))
    have VQ1 := fun m => quiet_left (V1 (W1.drewN m) (T1.drewN m))
    have VQ2 := fun m => quiet_left (V2 (W1.drewN m) (T1.drewN m))
    clear X V1 V2
    go_wp2_with fail
    go_quiet ((first | (go_at_call 30; with_reducible exact XQ _) | (go_at_call 24; first | with_reducible exact VQ1 _ | with_reducible exact VQ2 _)))
    go_wp2_with fail
    go_ret
    exact ⟨by rw [HX.out]; simp, n1.drewN _⟩
  · rw [hx] at X
    have HX := Lib.hid hx
    clear hx
    have XQ := fun m => quiet_left (X (W1.drewN m) (T1.drewN m))
    clear X V1 V2
    go_wp2_with fail
    go_quiet ((go_at_call 30; with_reducible exact XQ _))
    go_wp2_with fail
    go_ret
    exact ⟨by rw [HX.out]; simp, n1.drewN _⟩
/-- May, of whatever numbers -/
theorem mayD (b g cap : Nat) (l : List Bl) (voted : Nat) (lock i : Int) (w : World) (hw : WfT l) (h : Td w b g cap l) :
    Calls Try.prog 26 #[.pointer (some ⟨b, 0, none⟩), .agg #[.int .u64 voted, .int .i64 lock], .int .i64 i] w fun e w' => e = .returned (.bool (mayI l voted lock i)) ∧ New w w' := by
  by_cases ho : inT l i = false ∨ inT l lock = false
  · have e : mayI l voted lock i = false := by
      unfold mayI
      rcases ho with e | e <;> rw [e] <;> simp
    rw [e]
    exact mayD_out b g cap l voted lock i w h ho
  · simp only [not_or, Bool.not_eq_false] at ho
    obtain ⟨n, rfl, hn⟩ := inT_iff ho.1
    obtain ⟨k, rfl, hk⟩ := inT_iff ho.2
    rw [mayI_nat hw hk hn]
    by_cases h2 : n = 0 ∨ vw l n ≤ voted
    · have e : (!(n == 0) && decide (voted < vw l n) && (decide (vw l k < vw l (pr l n)) || extB l k n)) = false := by
        rcases h2 with e | e
        · simp [e]
        · rw [decide_eq_false (by omega : ¬ voted < vw l n)]; simp
      rw [e]
      exact mayD_no b g cap l voted k n hk hn w h h2
    · have h3 : n ≠ 0 := fun e => h2 (.inl e)
      have h4 : voted < vw l n := by omega
      have e : (!(n == 0) && decide (voted < vw l n) && (decide (vw l k < vw l (pr l n)) || extB l k n)) = (decide (vw l k < vw l (pr l n)) || extB l k n) := by
        simp [h3, h4]
      rw [e]
      exact mayD_yes b g cap l voted k n hk hn w hw h h3 h4
end Go.Proofs.Ytefbdikoichaeaa
