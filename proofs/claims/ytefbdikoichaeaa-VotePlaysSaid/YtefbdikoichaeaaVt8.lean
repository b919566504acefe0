/-
  VOTE: After of whatever number; Commits.
-/
import Derived.Test.YtefbdikoichaeaaVt7
namespace Go.Proofs.Ytefbdikoichaeaa
open Go.RowKit
set_option maxHeartbeats 2000000 in
theorem after_out (b g cap : Nat) (l : List Bl) (voted : Nat) (lock i : Int) (hi : inT l i = false) (w : World) (h : Tr w b g cap l) :
    Calls Try.prog 27 #[.pointer (some ⟨b, 0, none⟩), .agg #[.int .u64 voted, .int .i64 lock], .int .i64 i] w fun e w' => e = .returned (.agg #[.int .u64 voted, .int .i64 lock]) ∧ New w w' := by
  have H1 := at_out b g cap l i hi
  clear hi
  go_enter Try.func27, Try.ntmps27
  go_wp2_with fail
  have bV := blk2_0 w (.cells #[.int .u64 voted, .int .i64 lock] 43) (.cells #[.int .u64 0, .int .i64 0] 43)
  have bR := blk2_1 w (.cells #[.int .u64 voted, .int .i64 lock] 43) (.cells #[.int .u64 0, .int .i64 0] 43)
  have n0 : New w ((w.alloc (.cells #[.int .u64 voted, .int .i64 lock] 43)).alloc (.cells #[.int .u64 0, .int .i64 0] 43)) := ((New.refl w).alloc _).alloc _
  generalize (w.alloc _).alloc _ = W at *
  have hR0 : w.heap.size ≤ w.heap.size + 1 := by omega
  revert hR0
  generalize hR : w.heap.size + 1 = R at *
  generalize hV : w.heap.size = V at *
  intro hR0
  have hR1 : w.heap.size ≤ R := by omega
  clear hR hV hR0
  have T0 := h.keep n0
  refine (H1 _ T0).mono ?_
  rintro e w' ⟨rfl, rfl⟩
  have dV := cells2 bV
  have dR := cells2 bR
  go_wp2_with fail
  have n6 := (n0.set hR1 0 (.int .u64 (voted : Int))).set hR1 1 (.int .i64 lock)
  have bR6 := (heap_setCell_blk (heap_setCell_blk bR 0 (.int .u64 (voted : Int))) 1 (.int .i64 lock)).trans (show _ = some (.cells #[.int .u64 (voted : Int), .int .i64 lock] 43 (0, 0)) by simp)
  generalize World.setCell (World.setCell W _ _) _ _ = w6 at *
  have dR6 := cells2 bR6
  exact bodyPost_ret (v := .agg #[.int .u64 (voted : Int), .int .i64 lock]) (by simp [results, Try.results27, go_sem, dR6]) rfl ⟨rfl, n6⟩
theorem after_any (b g cap : Nat) (l : List Bl) (voted : Nat) (lock i : Int) (w : World) (hw : WfT l) (h : Tr w b g cap l) :
    Calls Try.prog 27 #[.pointer (some ⟨b, 0, none⟩), .agg #[.int .u64 voted, .int .i64 lock], .int .i64 i] w fun e w' => e = .returned (.agg #[.int .u64 (aftV l voted i), .int .i64 (aftL l lock i)]) ∧ New w w' := by
  rcases hi : inT l i with _ | _
  · rw [show aftV l voted i = voted by unfold aftV; rw [hi]; rfl, show aftL l lock i = lock by unfold aftL; rw [hi]; simp]
    exact after_out b g cap l voted lock i hi w h
  · obtain ⟨n, rfl, hn⟩ := inT_iff hi
    rw [aftV_nat hn]
    exact after_in b g cap l voted lock n hn w hw h

/-- a step of Commits' loop goes on -/
def good (l : List Bl) (x : Nat) : Prop := pr l x ≠ 0 ∧ vw l (pr l x) = vw l (pr l (pr l x)) + 1
theorem comN_good {l : List Bl} {n : Nat} (h0 : n ≠ 0) (h1 : good l n) (h2 : good l (pr l n)) : comN l n = (pr l (pr l (pr l n)) : Int) := by
  unfold comN
  rw [if_neg]
  rintro (k | k | k | k | k)
  · exact h0 k
  · exact h1.1 k
  · exact h2.1 k
  · exact k h1.2
  · exact k h2.2
theorem comN_bad {l : List Bl} {n : Nat} (h : n = 0 ∨ ¬ good l n ∨ ¬ good l (pr l n)) : comN l n = -1 := by
  unfold comN
  rw [if_pos]
  rcases h with h | h | h
  · exact .inl h
  · by_cases k : pr l n = 0
    · exact .inr (.inl k)
    · exact .inr (.inr (.inr (.inl (fun e => h ⟨k, e⟩))))
  · by_cases k : pr l (pr l n) = 0
    · exact .inr (.inr (.inl k))
    · exact .inr (.inr (.inr (.inr (fun e => h ⟨k, e⟩))))
theorem com_stop {l : List Bl} {n k : Nat} (hk : k < 2) (h : ¬ good l (up l k n)) : comN l n = -1 := by
  apply comN_bad
  match k, hk with
  | 0, _ => exact .inr (.inl h)
  | 1, _ => exact .inr (.inr h)
set_option maxHeartbeats 2000000 in
theorem com_in (b g cap : Nat) (l : List Bl) (n : Nat) (hn : n < l.length) (h0 : n ≠ 0) (w : World) (hw : WfT l) (h : Tr w b g cap l) :
    Calls Try.prog 20 #[.pointer (some ⟨b, 0, none⟩), .int .i64 n] w fun e w' => e = .returned (.int .i64 (comN l n)) ∧ New w w' := by
  have H1 := at_in b g cap l n hn w h
  have e0 : ((n : Int) == 0) = false := by simp [h0]
  have hl := hw.len
  go_enter Try.func20, Try.ntmps20
  go_wp2_with fail
  refine H1.mono ?_
  rintro e w' ⟨rfl, rfl⟩
  go_wp2_with fail
  go_loopw [1, 15] (fun bv i wr => ∃ k : Nat, k ≤ 2 ∧ i = .int .i64 k ∧ bv = .int .i64 (up l k n : Nat) ∧ (∀ j, j < k → good l (up l j n)) ∧ New w wr)
    (fun _ i _ => 2 - (intOf i).toNat)
  case atStart => exact ⟨0, by omega, rfl, rfl, fun j h => by omega, New.refl w⟩
  case round =>
    clear H1
    obtain ⟨k, hk, rfl, rfl, hgood, nr⟩ := hrel
    have hr := h.keep nr
    have hc := hw.up_lt k n hn
    have hp := hw.pr_lt hc
    have hq := hw.pr_lt hp
    have P1 := fun w h => par_any b g cap l (up l k n : Nat) w hw h
    rw [parI_nat hc] at P1
    by_cases hlt : k < 2
    · by_cases hz : pr l (up l k n) = 0
      · have HB := Lib.hid (com_stop hlt (fun h => h.1 hz))
        have ez : ((pr l (up l k n) : Int) == 0) = true := by simp [hz]
        clear hz hgood
        go_wp2_with fail
        refine (P1 _ hr).mono ?_
        rintro e w1 ⟨rfl, k1⟩
        have n1 := nr.then k1 (fun _ h => h.elim)
        clear P1
        go_wp2_with fail
        go_ret
        exact ⟨by rw [HB.out]; rfl, n1⟩
      · have ez : ((pr l (up l k n) : Int) == 0) = false := by simp [hz]
        have P2 := fun w h => par_any b g cap l (pr l (up l k n) : Nat) w hw h
        rw [parI_nat hp] at P2
        have V1 := fun w h => view_any b g cap l (pr l (up l k n) : Nat) w h
        rw [viewI_nat hp] at V1
        have V2 := fun w h => view_any b g cap l (pr l (pr l (up l k n)) : Nat) w h
        rw [viewI_nat hq] at V2
        have hlv := (hw.step _ (by omega) hp).2.2
        have hu := (hw.u64 (pr l (up l k n))).lt
        have hwr : IntKind.u64.wrap ((vw l (pr l (pr l (up l k n))) : Int) + 1) = ((vw l (pr l (pr l (up l k n))) + 1 : Nat) : Int) := by
          rw [IntWalk.u64_in _ ⟨by omega, by omega⟩]; omega
        by_cases hv : vw l (pr l (up l k n)) = vw l (pr l (pr l (up l k n))) + 1
        · have hg : good l (up l k n) := ⟨hz, hv⟩
          have hnext : up l (k + 1) n = pr l (up l k n) := by rw [up_add]; rfl
          have HN := Lib.hid hnext
          have HG : Hid (∀ j, j < k + 1 → good l (up l j n)) := by
            intro j hj
            by_cases e : j = k
            · subst e; exact hg
            · exact hgood j (by omega)
          have ev : ((vw l (pr l (up l k n)) : Int) != ((vw l (pr l (pr l (up l k n))) + 1 : Nat) : Int)) = false := by simp [hv]
          clear hnext hg hv hgood hz hu hlv
          generalize ((vw l (pr l (pr l (up l k n))) + 1 : Nat) : Int) = X at *
          go_wp2_with fail
          refine (P1 _ hr).mono ?_
          rintro e w1 ⟨rfl, k1⟩
          have n1 := nr.then k1 (fun _ h => h.elim)
          have T1 := hr.keep k1
          clear P1 nr hr k1
          go_wp2_with fail
          refine (P2 _ T1).mono ?_
          rintro e w2 ⟨rfl, k2⟩
          have n2 := n1.then k2 (fun _ h => h.elim)
          have T2 := T1.keep k2
          clear P2 n1 T1 k2
          go_wp2_with fail
          refine (V1 _ T2).mono ?_
          rintro e w' ⟨rfl, rfl⟩
          go_wp2_with fail
          refine (V2 _ T2).mono ?_
          rintro e w' ⟨rfl, rfl⟩
          go_wp2_with fail
          go_roundw
          case rel => exact ⟨k + 1, by omega, by go_num, by rw [HN.out], HG.out, n2⟩
          case measure => simp [intOf]; omega
        · have HB := Lib.hid (com_stop hlt (fun h => hv h.2))
          have ev : ((vw l (pr l (up l k n)) : Int) != ((vw l (pr l (pr l (up l k n))) + 1 : Nat) : Int)) = true := by rw [bne_iff_ne]; omega
          clear hgood hz hv hu hlv
          generalize ((vw l (pr l (pr l (up l k n))) + 1 : Nat) : Int) = X at *
          go_wp2_with fail
          refine (P1 _ hr).mono ?_
          rintro e w1 ⟨rfl, k1⟩
          have n1 := nr.then k1 (fun _ h => h.elim)
          have T1 := hr.keep k1
          clear P1 nr hr k1
          go_wp2_with fail
          refine (P2 _ T1).mono ?_
          rintro e w2 ⟨rfl, k2⟩
          have n2 := n1.then k2 (fun _ h => h.elim)
          have T2 := T1.keep k2
          clear P2 n1 T1 k2
          go_wp2_with fail
          refine (V1 _ T2).mono ?_
          rintro e w' ⟨rfl, rfl⟩
          go_wp2_with fail
          refine (V2 _ T2).mono ?_
          rintro e w' ⟨rfl, rfl⟩
          go_wp2_with fail
          go_ret
          exact ⟨by rw [HB.out]; rfl, n2⟩
    · obtain rfl : k = 2 := by omega
      have HB := Lib.hid (comN_good h0 (hgood 0 (by omega)) (hgood 1 (by omega)))
      clear hgood
      go_wp2_with fail
      refine (P1 _ hr).mono ?_
      rintro e w1 ⟨rfl, k1⟩
      have n1 := nr.then k1 (fun _ h => h.elim)
      clear P1
      go_wp2_with fail
      go_ret
      exact ⟨by rw [HB.out]; rfl, n1⟩
theorem com_zero (b g cap : Nat) (l : List Bl) (i : Int) (hi : i = 0 ∨ inT l i = false) (w : World) (h : Tr w b g cap l) :
    Calls Try.prog 20 #[.pointer (some ⟨b, 0, none⟩), .int .i64 i] w fun e w' => e = .returned (.int .i64 (-1)) ∧ w = w' := by
  rcases hk : inT l i with _ | _
  · have H1 := at_out b g cap l i hk w h
    clear hi hk
    go_enter Try.func20, Try.ntmps20
    go_wp2_with fail
    refine H1.mono ?_
    rintro e w' ⟨rfl, rfl⟩
    go_wp2_with fail
    go_ret
    exact ⟨rfl, rfl⟩
  · have h0 : i = 0 := by rcases hi with e | e; · exact e
                          · rw [e] at hk; cases hk
    obtain ⟨n, rfl, hn⟩ := inT_iff hk
    have H1 := at_in b g cap l n hn w h
    have e0 : ((n : Int) == 0) = true := by simp [h0]
    clear hi hk h0
    go_enter Try.func20, Try.ntmps20
    go_wp2_with fail
    refine H1.mono ?_
    rintro e w' ⟨rfl, rfl⟩
    go_wp2_with fail
    go_ret
    exact ⟨rfl, rfl⟩
theorem com_any (b g cap : Nat) (l : List Bl) (i : Int) (w : World) (hw : WfT l) (h : Tr w b g cap l) :
    Calls Try.prog 20 #[.pointer (some ⟨b, 0, none⟩), .int .i64 i] w fun e w' => e = .returned (.int .i64 (comI l i)) ∧ New w w' := by
  rcases hk : inT l i with _ | _
  · rw [comI_out hk]
    exact (com_zero b g cap l i (.inr hk) w h).mono fun e w' ⟨he, hw'⟩ => ⟨he, hw' ▸ New.refl w⟩
  · obtain ⟨n, rfl, hn⟩ := inT_iff hk
    rw [comI_nat hn]
    by_cases h0 : n = 0
    · rw [comN_bad (.inl h0)]
      exact (com_zero b g cap l n (.inl (by omega)) w h).mono fun e w' ⟨he, hw'⟩ => ⟨he, hw' ▸ New.refl w⟩
    · exact com_in b g cap l n hn h0 w hw h
end Go.Proofs.Ytefbdikoichaeaa
