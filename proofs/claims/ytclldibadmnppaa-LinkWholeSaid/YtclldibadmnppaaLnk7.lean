/-
  WALKS: voussoirref17's Lay where it lays; Take.
-/
import Derived.Test.YtclldibadmnppaaLnk6
import Derived.Deep.Cut
namespace Go.Proofs.Ytclldibadmnppaa
open Go.RowKit

theorem num2_p (b : Nat) (l : List UInt8) (n : Nat) (w : World) (hl : l.length + 8 ≤ 140737488355328) (hn : U64 n) (h : Wr2 w b l) :
    Calls Try.prog 27 #[.pointer (some ⟨b, 0, none⟩), .int .u64 n] w fun e w' => ∃ l', Hid (l' = l ++ be 8 n) ∧ l'.length = l.length + 8 ∧ e = .returned (.tuple #[]) ∧ Wr2 w' b l' ∧ Keeps (fun k => k = b) w w' :=
  (num2_any b l n w hl hn h).mono fun _ _ ⟨h1, h2, h3⟩ => ⟨_, rfl, by simp [be_length], h1, h2, h3⟩

set_option maxHeartbeats 4000000 in
theorem lay2_ok (st cl pe pc : Nat) (hst : st ≤ 3) (ok : okL st pe = true) (hc : U64 cl) (hp : U64 pe) (hpc : U64 pc) (w : World) :
    Calls Try.prog 47 #[.agg #[.int .i64 st, .int .u64 cl, .int .u64 pe, .int .u64 pc]] w fun e w' => e = .returned (.tuple #[.string ⟨(flat [st, cl, pe, pc]).toArray⟩, .int .i64 0]) ∧ New w w' := by
  have hwr : IntKind.u64.wrap (st : Int) = st := IntWalk.u64_in _ ⟨by omega, by omega⟩
  have hu : U64 st := by show _ < _; omega
  have hok : 1 ≤ st ∧ (st = 1 → pe = 0) := by
    unfold okL at ok
    split at ok
    · rename_i h; exact ⟨by omega, fun _ => by simpa using ok⟩
    · simp at ok; exact ⟨by omega, by omega⟩
  clear ok
  have e1 : decide ((st : Int) < 1) = false := by simp; omega
  have e2 : decide (3 < (st : Int)) = false := by simp; omega
  obtain ⟨out, hout⟩ : ∃ o, o = flat [st, cl, pe, pc] := ⟨_, rfl⟩
  rw [← hout]
  have HO := Lib.hid hout
  clear hout
  by_cases h1 : st = 1
  · have h0 := hok.2 h1
    subst h1
    subst h0
    clear hok e1 e2 hst
    go_enter Try.func47, Try.ntmps47
    go_wp2_with fail
    refine (newWriter2_any _).mono ?_
    rintro e w1 ⟨rfl, q1, k1⟩
    have b1 := k1.kept (heap_alloc_new w _) (fun h => h)
    have k1 := ((New.refl w).alloc _).then k1 (fun _ h => h.elim)
    rw [World.size_alloc] at *
    generalize hA : w.heap.size = A at *
    have hA0 : w.heap.size ≤ A := by omega
    clear hA
    generalize hB : A + 1 = B at *
    have hAB : A ≠ B := by omega
    have hB0 : w.heap.size ≤ B := by omega
    clear hB
    have d1 := cells4 b1
    go_wp2_with fail
    refine (num2_p B [] 1 w1 (by simp) hu q1).mono ?_
    rintro e w2 ⟨l1, h1, n1, rfl, q2, k2⟩
    have b2 := k2.kept b1 hAB
    have k2 := k1.then k2 (fun j hj => .inr (by subst hj; exact hB0))
    have d2 := cells4 b2
    clear d1 b1 k1 q1
    simp only [List.length_nil, Nat.zero_add] at n1
    go_wp2_with fail
    refine (num2_p B l1 cl w2 (by omega) hc q2).mono ?_
    rintro e w3 ⟨l2, h2, n2, rfl, q3, k3⟩
    have b3 := k3.kept b2 hAB
    have k3 := k2.then k3 (fun j hj => .inr (by subst hj; exact hB0))
    have d3 := cells4 b3
    clear d2 b2 k2 q2
    go_wp2_with fail
    refine (num2_p B l2 0 w3 (by omega) hp q3).mono ?_
    rintro e w4 ⟨l3, h3, n3, rfl, q4, k4⟩
    have b4 := k4.kept b3 hAB
    have k4 := k3.then k4 (fun j hj => .inr (by subst hj; exact hB0))
    have d4 := cells4 b4
    clear d3 b3 k3 q3
    go_wp2_with fail
    refine (num2_p B l3 pc w4 (by omega) hpc q4).mono ?_
    rintro e w5 ⟨l4, h4, n4, rfl, q5, k5⟩
    have k5 := k4.then k5 (fun j hj => .inr (by subst hj; exact hB0))
    clear d4 b4 k4 q4
    have HE : Hid (l4 = out) := by
      show l4 = out
      rw [HO.out, h4.out, h3.out, h2.out, h1.out]; simp [flat]
    clear h1 h2 h3 h4 HO
    go_wp2_with fail
    refine (bytes2_any B l4 w5 q5).mono ?_
    rintro e w' ⟨rfl, rfl⟩
    go_wp2_with fail
    go_returns
    exact ⟨by rw [← HE.out]; rfl, k5⟩
  · have e3 : ((st : Int) == 1) = false := by simp; omega
    clear hok hst h1
    go_enter Try.func47, Try.ntmps47
    go_wp2_with fail
    refine (newWriter2_any _).mono ?_
    rintro e w1 ⟨rfl, q1, k1⟩
    have b1 := k1.kept (heap_alloc_new w _) (fun h => h)
    have k1 := ((New.refl w).alloc _).then k1 (fun _ h => h.elim)
    rw [World.size_alloc] at *
    generalize hA : w.heap.size = A at *
    have hA0 : w.heap.size ≤ A := by omega
    clear hA
    generalize hB : A + 1 = B at *
    have hAB : A ≠ B := by omega
    have hB0 : w.heap.size ≤ B := by omega
    clear hB
    have d1 := cells4 b1
    go_wp2_with fail
    refine (num2_p B [] st w1 (by simp) hu q1).mono ?_
    rintro e w2 ⟨l1, h1, n1, rfl, q2, k2⟩
    have b2 := k2.kept b1 hAB
    have k2 := k1.then k2 (fun j hj => .inr (by subst hj; exact hB0))
    have d2 := cells4 b2
    clear d1 b1 k1 q1
    simp only [List.length_nil, Nat.zero_add] at n1
    go_wp2_with fail
    refine (num2_p B l1 cl w2 (by omega) hc q2).mono ?_
    rintro e w3 ⟨l2, h2, n2, rfl, q3, k3⟩
    have b3 := k3.kept b2 hAB
    have k3 := k2.then k3 (fun j hj => .inr (by subst hj; exact hB0))
    have d3 := cells4 b3
    clear d2 b2 k2 q2
    go_wp2_with fail
    refine (num2_p B l2 pe w3 (by omega) hp q3).mono ?_
    rintro e w4 ⟨l3, h3, n3, rfl, q4, k4⟩
    have b4 := k4.kept b3 hAB
    have k4 := k3.then k4 (fun j hj => .inr (by subst hj; exact hB0))
    have d4 := cells4 b4
    clear d3 b3 k3 q3
    go_wp2_with fail
    refine (num2_p B l3 pc w4 (by omega) hpc q4).mono ?_
    rintro e w5 ⟨l4, h4, n4, rfl, q5, k5⟩
    have k5 := k4.then k5 (fun j hj => .inr (by subst hj; exact hB0))
    clear d4 b4 k4 q4
    have HE : Hid (l4 = out) := by
      show l4 = out
      rw [HO.out, h4.out, h3.out, h2.out, h1.out]; simp [flat]
    clear h1 h2 h3 h4 HO
    go_wp2_with fail
    refine (bytes2_any B l4 w5 q5).mono ?_
    rintro e w' ⟨rfl, rfl⟩
    go_wp2_with fail
    go_returns
    exact ⟨by rw [← HE.out]; rfl, k5⟩

theorem st1_blk {w : World} {a : Nat} {c0 c1 c2 c3 : Value} {T : TypeId} (h : w.heap[a]? = some (.cells #[c0, c1, c2, c3] T (0, 0))) (i : Nat) (x : Value) (d0 d1 d2 d3 : Value)
    (e : (#[c0, c1, c2, c3] : Array Value).setIfInBounds i x = #[d0, d1, d2, d3]) : (w.setCell ⟨a, i, none⟩ x).heap[a]? = some (.cells #[d0, d1, d2, d3] T (0, 0)) := by
  rw [heap_setCell_blk h, e]
theorem kept_set {w : World} {a b : Nat} {o : Obj} (h : w.heap[b]? = some o) (hab : b ≠ a) (i : Nat) (x : Value) : (w.setCell ⟨a, i, none⟩ x).heap[b]? = some o := by
  rw [Below.heap_setCell _ _ _ _ hab]; exact h
theorem rd2_set {w : World} {a b : Nat} {l : List UInt8} {bad : Bool} (h : Rd2 w b l bad) (hab : b ≠ a) (i : Nat) (x : Value) : Rd2 (w.setCell ⟨a, i, none⟩ x) b l bad := kept_set h hab i x

set_option maxHeartbeats 4000000 in
theorem take2_any (p : List UInt8 × Bool) (hp : p.2 = false) (w : World) :
    Calls Try.prog 49 #[.string ⟨p.1.toArray⟩] w fun e w' => e = .returned (outT p) ∧ New w w' := by
  obtain ⟨out, hout⟩ : ∃ o, o = outT p := ⟨_, rfl⟩
  rw [← hout]
  have HO := Lib.hid hout
  clear hout
  have hnr := newReader2_any p.1
  rw [← hp] at hnr
  clear hp
  go_enter Try.func49, Try.ntmps49
  go_wp2_with fail
  refine (hnr _).mono ?_
  clear hnr
  rintro e w1 ⟨rfl, r1, k1⟩
  have b1 := k1.kept (heap_alloc_new w _) (fun h => h)
  have k1 := ((New.refl w).alloc _).then k1 (fun _ h => h.elim)
  rw [World.size_alloc] at *
  generalize hA : w.heap.size = A at *
  have hA0 : w.heap.size ≤ A := by omega
  clear hA
  generalize hB : A + 1 = B at *
  have hAB : A ≠ B := by omega
  have hB0 : w.heap.size ≤ B := by omega
  clear hB
  go_wp2_with fail
  refine (rnum2_p B p w1 r1).mono ?_
  rintro e w2 ⟨n0, p1, h0, rfl, r2, k2⟩
  have b2 := k2.kept b1 hAB
  have k2 := k1.then k2 (fun j hj => .inr (by subst hj; exact hB0))
  have hAC : A < w2.heap.size := (Array.getElem?_eq_some_iff.1 b2).1
  have hBC : B < w2.heap.size := r2.lt
  clear b1 k1 r1
  have s0 : ∀ o, Rd2 (w2.alloc o) B p1.1 p1.2 := fun o => ((New.refl w2).alloc o).kept r2 (fun h => h)
  have s1 : ∀ o, (w2.alloc o).heap[A]? = some (.cells #[.int .i64 0, .int .u64 0, .int .u64 0, .int .u64 0] 36 (0, 0)) := fun o => ((New.refl w2).alloc o).kept b2 (fun h => h)
  have s2 := heap_alloc_new w2 (.cells #[.int .i64 0, .int .u64 0, .int .u64 0, .int .u64 0] 36 (0, 0))
  have s3 : ∀ o, New w (w2.alloc o) := fun o => k2.alloc o
  go_wp2_with fail
  generalize hC : w2.heap.size = C at *
  have hC0 : w.heap.size ≤ C := by omega
  refine (rnum2_p B p1 _ (s0 _)).mono ?_
  rintro e w3 ⟨n1, p2, h1, rfl, r3, k3⟩
  have b3 := k3.kept (s1 _) hAB
  have c3 := k3.kept s2 (by omega)
  have k3 := (s3 _).then k3 (fun j hj => .inr (by subst hj; exact hB0))
  have d3 := cells4 c3
  clear s0 s1 s2 s3 r2 b2 k2 hC
  go_wp2_with fail
  have r4 := rd2_set r3 (by omega : B ≠ C) 1 (.int .u64 n1)
  have b4 := kept_set b3 (by omega : A ≠ C) 1 (.int .u64 n1)
  have c4 := st1_blk c3 1 (.int .u64 n1) _ _ _ _ rfl
  have k4 := k3.set hC0 1 (.int .u64 n1)
  generalize w3.setCell _ _ = w4 at *
  clear d3 b3 c3 k3 r3
  refine (rnum2_p B p2 w4 r4).mono ?_
  rintro e w5 ⟨n2, p3, h2, rfl, r5, k5⟩
  have b5 := k5.kept b4 hAB
  have c5 := k5.kept c4 (by omega)
  have k5 := k4.then k5 (fun j hj => .inr (by subst hj; exact hB0))
  have d5 := cells4 c5
  clear b4 c4 k4 r4
  go_wp2_with fail
  have r6 := rd2_set r5 (by omega : B ≠ C) 2 (.int .u64 n2)
  have b6 := kept_set b5 (by omega : A ≠ C) 2 (.int .u64 n2)
  have c6 := st1_blk c5 2 (.int .u64 n2) _ _ _ _ rfl
  have k6 := k5.set hC0 2 (.int .u64 n2)
  generalize w5.setCell _ _ = w6 at *
  clear d5 b5 c5 k5 r5
  refine (rnum2_p B p3 w6 r6).mono ?_
  rintro e w7 ⟨n3, p4, h3, rfl, r7, k7⟩
  have b7 := k7.kept b6 hAB
  have c7 := k7.kept c6 (by omega)
  have k7 := k6.then k7 (fun j hj => .inr (by subst hj; exact hB0))
  have d7 := cells4 c7
  clear b6 c6 k6 r6
  have HO2 : Hid (out = if (!p4.2 && p4.1.isEmpty) && okL (n0 : Int) n2 then .tuple #[.agg #[.int .i64 n0, .int .u64 n1, .int .u64 n2, .int .u64 n3], .int .i64 0]
    else .tuple #[.agg #[.int .i64 0, .int .u64 0, .int .u64 0, .int .u64 0], .int .i64 171]) := HO.out.trans (okT_of h0 h1 h2 h3)
  clear HO h0 h1 h2 h3
  obtain ⟨l4, bad4⟩ := p4
  go_wp2_with fail
  have r8 := rd2_set r7 (by omega : B ≠ C) 3 (.int .u64 n3)
  have b8 := kept_set b7 (by omega : A ≠ C) 3 (.int .u64 n3)
  have c8 := st1_blk c7 3 (.int .u64 n3) _ _ _ _ rfl
  have k8 := k7.set hC0 3 (.int .u64 n3)
  generalize w7.setCell _ _ = w8 at *
  clear d7 b7 c7 k7 r7
  have hAC2 : A ≠ C := by omega
  refine (end2_any B l4 bad4 w8 r8).mono ?_
  rintro e w' ⟨rfl, rfl⟩
  rcases hend : (!bad4 && l4.isEmpty) with _ | _
  · have HO3 : Hid (out = .tuple #[.agg #[.int .i64 0, .int .u64 0, .int .u64 0, .int .u64 0], .int .i64 171]) := by rw [HO2.out, hend]; rfl
    clear HO2 hend
    have d8 := cells4 b8
    go_wp2_with fail
    generalize hW : World.setCell (World.setCell (World.setCell (World.setCell w8 _ _) _ _) _ _) _ _ = W
    have kW := st4_new k8 hA0 hW
    have bW := cells4 (st4 b8 hW)
    clear hW d8 b8 c8 k8 r8
    exact bodyPost_ret (v := .tuple #[.agg #[.int .i64 0, .int .u64 0, .int .u64 0, .int .u64 0], .int .i64 171]) (by simp [results, Try.results49, go_sem, bW]) rfl ⟨by rw [HO3.out], kW⟩
  · have HO3 : Hid (out = if okL (n0 : Int) n2 then .tuple #[.agg #[.int .i64 n0, .int .u64 n1, .int .u64 n2, .int .u64 n3], .int .i64 0]
          else .tuple #[.agg #[.int .i64 0, .int .u64 0, .int .u64 0, .int .u64 0], .int .i64 171]) := by rw [HO2.out, hend]; rfl
    clear HO2 hend
    have d8 := cells4 b8
    have g8 := cells4 c8
    by_cases h1 : n0 < 1
    · have HO3 : Hid (out = .tuple #[.agg #[.int .i64 0, .int .u64 0, .int .u64 0, .int .u64 0], .int .i64 171]) := by
        rw [HO3.out, show okL (n0 : Int) n2 = false by unfold okL; rw [if_neg (by omega)]; simp; omega]; rfl
      have e1 : decide ((n0 : Int) < 1) = true := by simp; omega
      clear h1
      go_wp2_with fail
      generalize hW : World.setCell (World.setCell (World.setCell (World.setCell w8 _ _) _ _) _ _) _ _ = W
      have kW := st4_new k8 hA0 hW
      have bW := cells4 (st4 b8 hW)
      clear hW d8 b8 c8 k8 r8
      exact bodyPost_ret (v := .tuple #[.agg #[.int .i64 0, .int .u64 0, .int .u64 0, .int .u64 0], .int .i64 171]) (by simp [results, Try.results49, go_sem, bW]) rfl ⟨by rw [HO3.out], kW⟩
    · have e1 : decide ((n0 : Int) < 1) = false := by simp; omega
      by_cases h3 : 3 < n0
      · have HO3 : Hid (out = .tuple #[.agg #[.int .i64 0, .int .u64 0, .int .u64 0, .int .u64 0], .int .i64 171]) := by
          rw [HO3.out, okL_big (by omega)]; rfl
        have e2 : decide (3 < (n0 : Int)) = true := by simp; omega
        clear h1 h3
        go_wp2_with fail
        generalize hW : World.setCell (World.setCell (World.setCell (World.setCell w8 _ _) _ _) _ _) _ _ = W
        have kW := st4_new k8 hA0 hW
        have bW := cells4 (st4 b8 hW)
        clear hW d8 b8 c8 k8 r8
        exact bodyPost_ret (v := .tuple #[.agg #[.int .i64 0, .int .u64 0, .int .u64 0, .int .u64 0], .int .i64 171]) (by simp [results, Try.results49, go_sem, bW]) rfl ⟨by rw [HO3.out], kW⟩
      · have e2 : decide (3 < (n0 : Int)) = false := by simp; omega
        have hwr : IntKind.i64.wrap (n0 : Int) = n0 := IntWalk.i64_in _ ⟨by omega, by omega⟩
        by_cases h4 : n0 = 1
        · subst h4
          clear e1 e2 h1 h3
          by_cases h5 : n2 = 0
          · subst h5
            have HO3 : Hid (out = .tuple #[.agg #[.int .i64 1, .int .u64 n1, .int .u64 0, .int .u64 n3], .int .i64 0]) := HO3.out
            go_upto_region 11 with (fail)
            have b9 := kept_set b8 hAC2 0 (.int .i64 1)
            have c9 := st1_blk c8 0 (.int .i64 1) _ _ _ _ rfl
            have k9 := k8.set hC0 0 (.int .i64 1)
            generalize w8.setCell _ _ = w9 at *
            clear d8 g8 b8 c8 k8 r8
            have d9 := cells4 b9
            have g9 := cells4 c9
            go_wp2_with fail
            generalize hW : World.setCell (World.setCell (World.setCell (World.setCell w9 _ _) _ _) _ _) _ _ = W
            have kW := st4_new k9 hA0 hW
            have bW := cells4 (st4 b9 hW)
            clear hW d9 b9 c9 k9 g9
            exact bodyPost_ret (v := .tuple #[.agg #[.int .i64 1, .int .u64 n1, .int .u64 0, .int .u64 n3], .int .i64 0]) (by simp [results, Try.results49, go_sem, bW]) rfl ⟨by rw [HO3.out], kW⟩
          · have HO3 : Hid (out = .tuple #[.agg #[.int .i64 0, .int .u64 0, .int .u64 0, .int .u64 0], .int .i64 171]) := by
              rw [HO3.out, show okL ((1 : Nat) : Int) n2 = false by simp [okL, h5]]; rfl
            have e3 : ((n2 : Int) != 0) = true := by simp [bne]; omega
            clear h5
            go_wp2_with fail
            generalize hW : World.setCell (World.setCell (World.setCell (World.setCell w8 _ _) _ _) _ _) _ _ = W
            have kW := st4_new k8 hA0 hW
            have bW := cells4 (st4 b8 hW)
            clear hW d8 b8 c8 k8 r8
            exact bodyPost_ret (v := .tuple #[.agg #[.int .i64 0, .int .u64 0, .int .u64 0, .int .u64 0], .int .i64 171]) (by simp [results, Try.results49, go_sem, bW]) rfl ⟨by rw [HO3.out], kW⟩
        · have HO3 : Hid (out = .tuple #[.agg #[.int .i64 n0, .int .u64 n1, .int .u64 n2, .int .u64 n3], .int .i64 0]) := by
            rw [HO3.out, show okL (n0 : Int) n2 = true by unfold okL; rw [if_neg (by omega)]; simp; omega]; rfl
          have e3 : ((n0 : Int) == 1) = false := by simp; omega
          clear h1 h3 h4
          go_upto_region 11 with (fail)
          have b9 := kept_set b8 hAC2 0 (.int .i64 n0)
          have c9 := st1_blk c8 0 (.int .i64 n0) _ _ _ _ rfl
          have k9 := k8.set hC0 0 (.int .i64 n0)
          generalize w8.setCell _ _ = w9 at *
          clear d8 g8 b8 c8 k8 r8
          have d9 := cells4 b9
          have g9 := cells4 c9
          go_wp2_with fail
          generalize hW : World.setCell (World.setCell (World.setCell (World.setCell w9 _ _) _ _) _ _) _ _ = W
          have kW := st4_new k9 hA0 hW
          have bW := cells4 (st4 b9 hW)
          clear hW d9 b9 c9 k9 g9
          exact bodyPost_ret (v := .tuple #[.agg #[.int .i64 n0, .int .u64 n1, .int .u64 n2, .int .u64 n3], .int .i64 0]) (by simp [results, Try.results49, go_sem, bW]) rfl ⟨by rw [HO3.out], kW⟩
end Go.Proofs.Ytclldibadmnppaa
