/-
  WALKS: the document's wrong, Out, In, Back of layer 19 over its bank.
-/
import Derived.Test.YtcldbipipehedaaRfD
import Derived.Test.YtcldbipipehedaaTr4
import Derived.Deep.RegionHeld3
import Derived.Deep.DrawnRows
import Derived.Deep.RegionWith
namespace Go.Proofs.Ytcldbipipehedaa
open Go.RowKit Go.ChangeMaps
theorem esc_short {x : List UInt8} (h : x.length < 7) : isEsc x = false := by
  unfold isEsc
  rcases e : sEscrow.isPrefixOf x with _ | _
  · rfl
  · have := (List.isPrefixOf_iff_prefix.1 e).length_le
    simp [sEscrow] at this; omega
theorem esc_take {x : List UInt8} : isEsc x = (x.take 7 == [101, 115, 99, 114, 111, 119, 47]) := by
  unfold isEsc
  rw [Bool.eq_iff_iff, List.isPrefixOf_iff_prefix, beq_iff_eq]
  constructor
  · intro h; exact (List.prefix_iff_eq_take.1 h).symm
  · intro h; exact List.prefix_iff_eq_take.2 h.symm
set_option maxHeartbeats 4000000 in
theorem rWrongC (c : Co) (hv : U64 c.amt) (w : World) :
    Calls Try.prog 65 #[.agg #[.string ⟨c.den.toArray⟩, .int .u64 c.amt, .string ⟨c.fr.toArray⟩, .string ⟨c.to.toArray⟩]] w fun e w' => e = .returned (.int .i64 (chkC c)) ∧ New w w' := by
  have n1 : New w (w.alloc (.cells #[.string ⟨c.den.toArray⟩, .int .u64 c.amt, .string ⟨c.fr.toArray⟩, .string ⟨c.to.toArray⟩] 41)) := (New.refl w).alloc _
  have q1 : cn (w.alloc (.cells #[.string ⟨c.den.toArray⟩, .int .u64 c.amt, .string ⟨c.fr.toArray⟩, .string ⟨c.to.toArray⟩] 41)) w.heap.size c := heap_alloc_new w _
  have LY := fun w => cLay2 c hv w
  rcases hr : rightC c with _ | _
  · have HO : Hid (chkC c = 190) := by rw [Hid]; unfold chkC; rw [hr]; rfl
    have hE : layE c = 190 := by unfold layE; rw [hr]; rfl
    rw [hE] at LY
    clear hE hr
    generalize layO c = lo at *
    generalize chkC c = out at *
    go_enter Try.func65, Try.ntmps65
    go_wp2_with fail
    generalize World.alloc w _ = W at *
    generalize w.heap.size = q at *
    have d := q1.cells
    refine (LY _).mono ?_
    rintro e w2 ⟨rfl, k2⟩
    have n2 := n1.then k2 (fun _ h => h.elim)
    clear n1 q1 d LY k2
    go_wp2_with fail
    go_ret
    exact ⟨by rw [HO.out]; rfl, n2⟩
  · have HC : Hid (chkC c = if isEsc c.fr || isEsc c.to then 191 else 0) := by rw [Hid]; unfold chkC; rw [hr]; rfl
    have hE : layE c = 0 := by unfold layE; rw [hr]; rfl
    rw [hE] at LY
    clear hE hr
    generalize layO c = lo at *
    generalize chkC c = out at *
    by_cases f1 : c.fr.length < 7
    · have e1 := esc_short f1
      have l1 : ¬ (7 : Int) ≤ (c.fr.length : Int) := by omega
      by_cases t1 : c.to.length < 7
      · have e2 := esc_short t1
        have l2 : ¬ (7 : Int) ≤ (c.to.length : Int) := by omega
        have HO : Hid (out = 0) := by rw [Hid, HC.out, e1, e2]; rfl
        clear HC
        clear e2 t1
        go_enter Try.func65, Try.ntmps65
        go_wp2_with fail
        generalize World.alloc w _ = W at *
        generalize w.heap.size = q at *
        have d := q1.cells
        refine (LY _).mono ?_
        rintro e w2 ⟨rfl, k2⟩
        have n2 := n1.then k2 (fun _ h => h.elim)
        have d2 := (q1.keep k2).cells
        clear n1 q1 d LY k2
        go_wp2_with fail
        go_ret
        exact ⟨by rw [HO.out]; rfl, n2⟩
      · have l2 : (7 : Int) ≤ (c.to.length : Int) := by omega
        have x2 := ext_take c.to 7
        have e2 := esc_take (x := c.to)
        rcases t2 : (c.to.take 7 == [101, 115, 99, 114, 111, 119, 47]) with _ | _
        · rw [t2] at e2
          have HO : Hid (out = 0) := by rw [Hid, HC.out, e1, e2]; rfl
          clear HC
          clear e2
          generalize c.to.take 7 = tt at *
          go_enter Try.func65, Try.ntmps65
          go_wp2_with fail
          generalize World.alloc w _ = W at *
          generalize w.heap.size = q at *
          have d := q1.cells
          refine (LY _).mono ?_
          rintro e w2 ⟨rfl, k2⟩
          have n2 := n1.then k2 (fun _ h => h.elim)
          have d2 := (q1.keep k2).cells
          clear n1 q1 d LY k2
          go_wp2_with fail
          go_ret
          exact ⟨by rw [HO.out]; rfl, n2⟩
        · rw [t2] at e2
          have HO : Hid (out = 191) := by rw [Hid, HC.out, e1, e2]; rfl
          clear HC
          have t3 : c.to.take 7 = [101, 115, 99, 114, 111, 119, 47] := by simpa using t2
          rw [t3] at x2
          clear e2 t2 t3
          go_enter Try.func65, Try.ntmps65
          go_wp2_with fail
          generalize World.alloc w _ = W at *
          generalize w.heap.size = q at *
          have d := q1.cells
          refine (LY _).mono ?_
          rintro e w2 ⟨rfl, k2⟩
          have n2 := n1.then k2 (fun _ h => h.elim)
          have d2 := (q1.keep k2).cells
          clear n1 q1 d LY k2
          go_wp2_with fail
          go_ret
          exact ⟨by rw [HO.out]; rfl, n2⟩
    · have l1 : (7 : Int) ≤ (c.fr.length : Int) := by omega
      have x1 := ext_take c.fr 7
      have e1 := esc_take (x := c.fr)
      rcases f2 : (c.fr.take 7 == [101, 115, 99, 114, 111, 119, 47]) with _ | _
      · rw [f2] at e1
        generalize c.fr.take 7 = tf at *
        by_cases t1 : c.to.length < 7
        · have e2 := esc_short t1
          have l2 : ¬ (7 : Int) ≤ (c.to.length : Int) := by omega
          have HO : Hid (out = 0) := by rw [Hid, HC.out, e1, e2]; rfl
          clear HC
          clear e2 t1
          go_enter Try.func65, Try.ntmps65
          go_wp2_with fail
          generalize World.alloc w _ = W at *
          generalize w.heap.size = q at *
          have d := q1.cells
          refine (LY _).mono ?_
          rintro e w2 ⟨rfl, k2⟩
          have n2 := n1.then k2 (fun _ h => h.elim)
          have d2 := (q1.keep k2).cells
          clear n1 q1 d LY k2
          go_wp2_with fail
          go_ret
          exact ⟨by rw [HO.out]; rfl, n2⟩
        · have l2 : (7 : Int) ≤ (c.to.length : Int) := by omega
          have x2 := ext_take c.to 7
          have e2 := esc_take (x := c.to)
          rcases t2 : (c.to.take 7 == [101, 115, 99, 114, 111, 119, 47]) with _ | _
          · rw [t2] at e2
            have HO : Hid (out = 0) := by rw [Hid, HC.out, e1, e2]; rfl
            clear HC
            clear e2
            generalize c.to.take 7 = tt at *
            go_enter Try.func65, Try.ntmps65
            go_wp2_with fail
            generalize World.alloc w _ = W at *
            generalize w.heap.size = q at *
            have d := q1.cells
            refine (LY _).mono ?_
            rintro e w2 ⟨rfl, k2⟩
            have n2 := n1.then k2 (fun _ h => h.elim)
            have d2 := (q1.keep k2).cells
            clear n1 q1 d LY k2
            go_wp2_with fail
            go_ret
            exact ⟨by rw [HO.out]; rfl, n2⟩
          · rw [t2] at e2
            have HO : Hid (out = 191) := by rw [Hid, HC.out, e1, e2]; rfl
            clear HC
            have t3 : c.to.take 7 = [101, 115, 99, 114, 111, 119, 47] := by simpa using t2
            rw [t3] at x2
            clear e2 t2 t3
            go_enter Try.func65, Try.ntmps65
            go_wp2_with fail
            generalize World.alloc w _ = W at *
            generalize w.heap.size = q at *
            have d := q1.cells
            refine (LY _).mono ?_
            rintro e w2 ⟨rfl, k2⟩
            have n2 := n1.then k2 (fun _ h => h.elim)
            have d2 := (q1.keep k2).cells
            clear n1 q1 d LY k2
            go_wp2_with fail
            go_ret
            exact ⟨by rw [HO.out]; rfl, n2⟩
      · rw [f2] at e1
        have HO : Hid (out = 191) := by rw [Hid, HC.out, e1]; rfl
        clear HC
        have f3 : c.fr.take 7 = [101, 115, 99, 114, 111, 119, 47] := by simpa using f2
        rw [f3] at x1
        clear e1 f2 f3
        go_enter Try.func65, Try.ntmps65
        go_wp2_with fail
        generalize World.alloc w _ = W at *
        generalize w.heap.size = q at *
        have d := q1.cells
        refine (LY _).mono ?_
        rintro e w2 ⟨rfl, k2⟩
        have n2 := n1.then k2 (fun _ h => h.elim)
        have d2 := (q1.keep k2).cells
        clear n1 q1 d LY k2
        go_wp2_with fail
        go_ret
        exact ⟨by rw [HO.out]; rfl, n2⟩
set_option maxHeartbeats 4000000 in
set_option maxRecDepth 100000 in
theorem rOutB {w0 : World} {b n : Nat} {s : BkS} (ch : Nat) (hch : U64 ch) (c : Co) (hv : U64 c.amt) (hn : n ≤ 90000) (w : World) (h : Rk w0 w b n s) :
    Calls Try.prog 27 #[.pointer (some ⟨b, 0, none⟩), .int .u64 ch, .agg #[.string ⟨c.den.toArray⟩, .int .u64 c.amt, .string ⟨c.fr.toArray⟩, .string ⟨c.to.toArray⟩]] w fun e w' => e = .returned (.int .i64 (outE s ch c)) ∧ Rk w0 w' b (n + 2) (outS s ch c) ∧ Keeps (fun k => k = b) w w' := by
  have n1 : New w (w.alloc (.cells #[.string ⟨c.den.toArray⟩, .int .u64 c.amt, .string ⟨c.fr.toArray⟩, .string ⟨c.to.toArray⟩] 41)) := (New.refl w).alloc _
  have q1 : cn (w.alloc (.cells #[.string ⟨c.den.toArray⟩, .int .u64 c.amt, .string ⟨c.fr.toArray⟩, .string ⟨c.to.toArray⟩] 41)) w.heap.size c := heap_alloc_new w _
  have h1 := h.keep n1
  have CK := fun w => rWrongC c hv w
  by_cases hc : chkC c = 0
  · obtain ⟨hd1, hd2, hf1, hf2, ht1, ht2, ha0, hef, het⟩ := chkC_zero hc
    have HM := fun w => home2_any ch hch c.den w
    rw [hc] at CK
    rcases hh : isHome ch c.den with _ | _
    · have HR : Hid (outE s ch c = sendE s c.fr (escL ch) c.den c.amt) := by rw [Hid]; unfold outE; rw [if_pos hc, hh]; rfl
      have HS : Hid (outS s ch c = sendS s c.fr (escL ch) c.den c.amt) := by rw [Hid]; unfold outS; rw [if_pos hc, hh]; rfl
      rw [hh] at HM
      clear hc hh
      go_enter Try.func27, Try.ntmps27
      go_wp2_with fail
      generalize World.alloc w _ = W at *
      generalize w.heap.size = q at *
      have d := q1.cells
      refine (CK _).mono ?_
      rintro e w2 ⟨rfl, k2⟩
      have n2 := n1.then k2 (fun _ h => h.elim)
      have q2 := q1.keep k2
      have h2 := h1.keep k2
      clear n1 q1 h1 d CK k2 h
      have d2 := q2.cells
      go_wp2_with fail
      refine (HM _).mono ?_
      rintro e w3 ⟨rfl, k3⟩
      have n3 := n2.then k3 (fun _ h => h.elim)
      have q3 := q2.keep k3
      have h3 := h2.keep k3
      clear n2 q2 h2 d2 HM k3
      have d3 := q3.cells
      have S5 := q3.drew
      go_wp2_with fail
      refine wp_region_held_drew (S := (fun w' => cn w' q c)) (by kernel_rfl) ?_ (fun hHeld => ?_)
      · exact S5
      refine wpAnyH_take (i := 0) (oi := ⟨some 31, _, _, _, _, _⟩) (v := ?_) rfl (by kernel_rfl) (by kernel_rfl) (by kernel_rfl) (fun _ _ _ h => h) (Or.inl ⟨by rfl, ?_⟩) (by assumption) ?_
      rotate_left
      · (intro wq hSw; (try dsimp only at hSw); go_simp; try with_reducible rfl)
      try simp only [Act.put, List.setIfInBounds_toArray, List.set_cons_zero, List.set_cons_succ]
      refine wpAnyH_take (i := 1) (oi := ⟨some 32, _, _, _, _, _⟩) (v := ?_) rfl (by kernel_rfl) (by kernel_rfl) (by kernel_rfl) (fun _ _ _ h => h) (Or.inl ⟨by rfl, ?_⟩) (by assumption) ?_
      rotate_left
      · (intro wq hSw; (try dsimp only at hSw); go_simp; try with_reducible rfl)
      try simp only [Act.put, List.setIfInBounds_toArray, List.set_cons_zero, List.set_cons_succ]
      refine wpAnyH_take (i := 2) (oi := ⟨some 33, _, _, _, _, _⟩) (v := ?_) rfl (by kernel_rfl) (by kernel_rfl) (by kernel_rfl) (fun _ _ _ h => h) (Or.inl ⟨by rfl, ?_⟩) (by assumption) ?_
      rotate_left
      · (intro wq hSw; (try dsimp only at hSw); have d := hSw.cells; go_simp; try with_reducible rfl)
      try simp only [Act.put, List.setIfInBounds_toArray, List.set_cons_zero, List.set_cons_succ]
      refine wpAnyH_take (i := 3) (oi := ⟨some 34, _, _, _, _, _⟩) (v := ?_) rfl (by kernel_rfl) (by kernel_rfl) (by kernel_rfl) (fun _ _ _ h => h) (Or.inl ⟨by rfl, ?_⟩) (by assumption) ?_
      rotate_left
      · (intro wq hSw; (try dsimp only at hSw); go_simp; try with_reducible rfl)
      try simp only [Act.put, List.setIfInBounds_toArray, List.set_cons_zero, List.set_cons_succ]
      refine wpAnyH_take (i := 5) (oi := ⟨some 36, _, _, _, _, _⟩) (v := ?_) rfl (by kernel_rfl) (by kernel_rfl) (by kernel_rfl) (fun _ _ _ h => h) (Or.inl ⟨by rfl, ?_⟩) (by assumption) ?_
      rotate_left
      · (intro wq hSw; (try dsimp only at hSw); go_simp; try with_reducible rfl)
      try simp only [Act.put, List.setIfInBounds_toArray, List.set_cons_zero, List.set_cons_succ]
      refine wpAnyH_take (i := 6) (oi := ⟨some 37, _, _, _, _, _⟩) (v := ?_) rfl (by kernel_rfl) (by kernel_rfl) (by kernel_rfl) (fun _ _ _ h => h) (Or.inl ⟨by rfl, ?_⟩) (by assumption) ?_
      rotate_left
      · (intro wq hSw; (try dsimp only at hSw); have d := hSw.cells; go_simp; try with_reducible rfl)
      try simp only [Act.put, List.setIfInBounds_toArray, List.set_cons_zero, List.set_cons_succ]
      refine wpAnyH_take (i := 7) (oi := ⟨some 38, _, _, _, _, _⟩) (v := ?_) rfl (by kernel_rfl) (by kernel_rfl) (by kernel_rfl) (fun _ _ _ h => h) (Or.inl ⟨by rfl, ?_⟩) (by assumption) ?_
      rotate_left
      · (intro wq hSw; (try dsimp only at hSw); go_simp; try with_reducible rfl)
      try simp only [Act.put, List.setIfInBounds_toArray, List.set_cons_zero, List.set_cons_succ]
      refine wpAnyH_take (i := 8) (oi := ⟨some 39, _, _, _, _, _⟩) (v := ?_) rfl (by kernel_rfl) (by kernel_rfl) (by kernel_rfl) (fun _ _ _ h => h) (Or.inl ⟨by rfl, ?_⟩) (by assumption) ?_
      rotate_left
      · (intro wq hSw; (try dsimp only at hSw); have d := hSw.cells; go_simp; try with_reducible rfl)
      try simp only [Act.put, List.setIfInBounds_toArray, List.set_cons_zero, List.set_cons_succ]
      refine wpAnyH_ready (rs := [4]) (by kernel_rfl) (by simp) ?_
      refine AllReadyH.cons (o := ⟨some 35, _, _, _, _, _⟩) rfl (fun K hK => ?_) AllReadyH.nil
      go_simp
      refine (esc2_any ch hch _).mono ?_; rintro e z4 ⟨rfl, y4⟩; have hb := h3.drew.keep y4
      refine hK.out _ _ (hHeld.keep y4) (fun hHeld => ?_)
      clear hK K
      try simp only [Act.put, List.setIfInBounds_toArray, List.set_cons_zero, List.set_cons_succ]
      refine wpAnyH_ready (rs := [9]) (by kernel_rfl) (by simp) ?_
      refine AllReadyH.cons (o := ⟨some 40, _, _, _, _, _⟩) rfl (fun K hK => ?_) AllReadyH.nil
      go_simp
      refine (rSendB c.fr (escL ch) c.den c.amt hv hn _ hb).mono ?_; rintro e z9 ⟨rfl, h9, k9⟩
      refine hK.out _ _ (hHeld.keepS k9 (hb.ne hHeld (by decide))) (fun hHeld => ?_)
      clear hK K
      try simp only [Act.put, List.setIfInBounds_toArray, List.set_cons_zero, List.set_cons_succ]
      refine wpAnyH_take (i := 10) (oi := ⟨some 6, _, _, _, _, _⟩) (v := ?_) rfl (by kernel_rfl) (by kernel_rfl) (by kernel_rfl) (fun _ _ _ h => h) (Or.inl ⟨by rfl, ?_⟩) (by assumption) ?_
      rotate_left
      · (intro wq hSw; (try dsimp only at hSw); go_simp; try with_reducible rfl)
      try simp only [Act.put, List.setIfInBounds_toArray, List.set_cons_zero, List.set_cons_succ]
      refine wpAnyH_done (by kernel_rfl) ?_ _
      have K : Hid (Keeps (fun k => k = b) w z9) := (((n3.drew.then y4 (fun _ h => h.elim)).mono (fun _ _ h => h.elim))).then k9 (fun _ h => .inl h)
      have H9 := Lib.hid h9
      clear d3 q3 h3 n3 k9 y4 hb h9 hHeld S5
      go_wp2_with fail
      go_ret
      exact ⟨by rw [HR.out]; rfl, by rw [HS.out]; exact H9.out, K.out⟩
    · have HR : Hid (outE s ch c = burnE s c.fr c.den c.amt) := by rw [Hid]; unfold outE; rw [if_pos hc, hh]; rfl
      have HS : Hid (outS s ch c = burnS s c.fr c.den c.amt) := by rw [Hid]; unfold outS; rw [if_pos hc, hh]; rfl
      rw [hh] at HM
      clear hc hh
      go_enter Try.func27, Try.ntmps27
      go_wp2_with fail
      generalize World.alloc w _ = W at *
      generalize w.heap.size = q at *
      have d := q1.cells
      refine (CK _).mono ?_
      rintro e w2 ⟨rfl, k2⟩
      have n2 := n1.then k2 (fun _ h => h.elim)
      have q2 := q1.keep k2
      have h2 := h1.keep k2
      clear n1 q1 h1 d CK k2 h
      have d2 := q2.cells
      go_wp2_with fail
      refine (HM _).mono ?_
      rintro e w3 ⟨rfl, k3⟩
      have n3 := n2.then k3 (fun _ h => h.elim)
      have q3 := q2.keep k3
      have h3 := h2.keep k3
      clear n2 q2 h2 d2 HM k3
      have d3 := q3.cells
      go_wp2_with fail
      refine (rBurnB c.fr c.den c.amt hv hn _ h3).mono ?_
      rintro e w4 ⟨rfl, h4, k4⟩
      have K : Hid (Keeps (fun k => k = b) w w4) := (n3.mono (fun _ _ h => h.elim)).then k4 (fun _ h => .inl h)
      clear d3 q3 h3 n3 k4
      go_wp2_with fail
      go_ret
      exact ⟨by rw [HR.out]; rfl, by rw [HS.out]; exact h4, K.out⟩
  · have HR : Hid (outE s ch c = chkC c) := by rw [Hid]; unfold outE; rw [if_neg hc]
    have HS : Hid (outS s ch c = s) := by rw [Hid]; unfold outS; rw [if_neg hc]
    have e1 : (chkC c != 0) = true := by simpa using hc
    have e0 : (chkC c == 0) = false := by simpa using hc
    clear hc
    generalize chkC c = cc at *
    go_enter Try.func27, Try.ntmps27
    go_wp2_with fail
    generalize World.alloc w _ = W at *
    generalize w.heap.size = q at *
    have d := q1.cells
    refine (CK _).mono ?_
    rintro e w2 ⟨rfl, k2⟩
    have n2 := n1.then k2 (fun _ h => h.elim)
    have q2 := q1.keep k2
    have h2 := h1.keep k2
    clear n1 q1 h1 d CK k2 h
    have K : Hid (Keeps (fun k => k = b) w w2) := n2.mono (fun _ _ h => h.elim)
    go_wp2_with fail
    go_ret
    exact ⟨by rw [HR.out]; rfl, by rw [HS.out]; exact h2.mono (by omega), K.out⟩
set_option maxHeartbeats 4000000 in
set_option maxRecDepth 100000 in
theorem rInB {w0 : World} {b n : Nat} {s : BkS} (ch pe : Nat) (hch : U64 ch) (hpe : U64 pe) (c : Co) (hv : U64 c.amt) (hn : n ≤ 90000) (w : World) (h : Rk w0 w b n s) :
    Calls Try.prog 29 #[.pointer (some ⟨b, 0, none⟩), .int .u64 ch, .int .u64 pe, .agg #[.string ⟨c.den.toArray⟩, .int .u64 c.amt, .string ⟨c.fr.toArray⟩, .string ⟨c.to.toArray⟩]] w fun e w' => e = .returned (.int .i64 (inE s ch pe c)) ∧ Rk w0 w' b (n + 2) (inS s ch pe c) ∧ Keeps (fun k => k = b) w w' := by
  have n1 : New w (w.alloc (.cells #[.string ⟨c.den.toArray⟩, .int .u64 c.amt, .string ⟨c.fr.toArray⟩, .string ⟨c.to.toArray⟩] 41)) := (New.refl w).alloc _
  have q1 : cn (w.alloc (.cells #[.string ⟨c.den.toArray⟩, .int .u64 c.amt, .string ⟨c.fr.toArray⟩, .string ⟨c.to.toArray⟩] 41)) w.heap.size c := heap_alloc_new w _
  have h1 := h.keep n1
  have CK := fun w => rWrongC c hv w
  by_cases hc : chkC c = 0
  · obtain ⟨hd1, hd2, hf1, hf2, ht1, ht2, ha0, hef, het⟩ := chkC_zero hc
    have HM := fun w => home2_any pe hpe c.den w
    rw [hc] at CK
    rcases hh : isHome pe c.den with _ | _
    · have HR : Hid (inE s ch pe c = mintE s c.to (vouL ch c.den) c.amt) := by rw [Hid]; unfold inE; rw [if_pos hc, hh]; rfl
      have HS : Hid (inS s ch pe c = mintS s c.to (vouL ch c.den) c.amt) := by rw [Hid]; unfold inS; rw [if_pos hc, hh]; rfl
      rw [hh] at HM
      clear hc hh
      go_enter Try.func29, Try.ntmps29
      go_wp2_with fail
      generalize World.alloc w _ = W at *
      generalize w.heap.size = q at *
      have d := q1.cells
      refine (CK _).mono ?_
      rintro e w2 ⟨rfl, k2⟩
      have n2 := n1.then k2 (fun _ h => h.elim)
      have q2 := q1.keep k2
      have h2 := h1.keep k2
      clear n1 q1 h1 d CK k2 h
      have d2 := q2.cells
      go_wp2_with fail
      refine (HM _).mono ?_
      rintro e w3 ⟨rfl, k3⟩
      have n3 := n2.then k3 (fun _ h => h.elim)
      have q3 := q2.keep k3
      have h3 := h2.keep k3
      clear n2 q2 h2 d2 HM k3
      have d3 := q3.cells
      have S5 := q3.drew
      go_wp2_with fail
      refine wp_region_held_drew (S := (fun w' => cn w' q c)) (by kernel_rfl) ?_ (fun hHeld => ?_)
      · exact S5
      refine wpAnyH_take (i := 0) (oi := ⟨some 34, _, _, _, _, _⟩) (v := ?_) rfl (by kernel_rfl) (by kernel_rfl) (by kernel_rfl) (fun _ _ _ h => h) (Or.inl ⟨by rfl, ?_⟩) (by assumption) ?_
      rotate_left
      · (intro wq hSw; (try dsimp only at hSw); go_simp; try with_reducible rfl)
      try simp only [Act.put, List.setIfInBounds_toArray, List.set_cons_zero, List.set_cons_succ]
      refine wpAnyH_take (i := 1) (oi := ⟨some 35, _, _, _, _, _⟩) (v := ?_) rfl (by kernel_rfl) (by kernel_rfl) (by kernel_rfl) (fun _ _ _ h => h) (Or.inl ⟨by rfl, ?_⟩) (by assumption) ?_
      rotate_left
      · (intro wq hSw; (try dsimp only at hSw); go_simp; try with_reducible rfl)
      try simp only [Act.put, List.setIfInBounds_toArray, List.set_cons_zero, List.set_cons_succ]
      refine wpAnyH_take (i := 2) (oi := ⟨some 36, _, _, _, _, _⟩) (v := ?_) rfl (by kernel_rfl) (by kernel_rfl) (by kernel_rfl) (fun _ _ _ h => h) (Or.inl ⟨by rfl, ?_⟩) (by assumption) ?_
      rotate_left
      · (intro wq hSw; (try dsimp only at hSw); have d := hSw.cells; go_simp; try with_reducible rfl)
      try simp only [Act.put, List.setIfInBounds_toArray, List.set_cons_zero, List.set_cons_succ]
      refine wpAnyH_take (i := 3) (oi := ⟨some 37, _, _, _, _, _⟩) (v := ?_) rfl (by kernel_rfl) (by kernel_rfl) (by kernel_rfl) (fun _ _ _ h => h) (Or.inl ⟨by rfl, ?_⟩) (by assumption) ?_
      rotate_left
      · (intro wq hSw; (try dsimp only at hSw); go_simp; try with_reducible rfl)
      try simp only [Act.put, List.setIfInBounds_toArray, List.set_cons_zero, List.set_cons_succ]
      refine wpAnyH_take (i := 4) (oi := ⟨some 38, _, _, _, _, _⟩) (v := ?_) rfl (by kernel_rfl) (by kernel_rfl) (by kernel_rfl) (fun _ _ _ h => h) (Or.inl ⟨by rfl, ?_⟩) (by assumption) ?_
      rotate_left
      · (intro wq hSw; (try dsimp only at hSw); go_simp; try with_reducible rfl)
      try simp only [Act.put, List.setIfInBounds_toArray, List.set_cons_zero, List.set_cons_succ]
      refine wpAnyH_take (i := 5) (oi := ⟨some 39, _, _, _, _, _⟩) (v := ?_) rfl (by kernel_rfl) (by kernel_rfl) (by kernel_rfl) (fun _ _ _ h => h) (Or.inl ⟨by rfl, ?_⟩) (by assumption) ?_
      rotate_left
      · (intro wq hSw; (try dsimp only at hSw); have d := hSw.cells; go_simp; try with_reducible rfl)
      try simp only [Act.put, List.setIfInBounds_toArray, List.set_cons_zero, List.set_cons_succ]
      refine wpAnyH_take (i := 7) (oi := ⟨some 41, _, _, _, _, _⟩) (v := ?_) rfl (by kernel_rfl) (by kernel_rfl) (by kernel_rfl) (fun _ _ _ h => h) (Or.inl ⟨by rfl, ?_⟩) (by assumption) ?_
      rotate_left
      · (intro wq hSw; (try dsimp only at hSw); go_simp; try with_reducible rfl)
      try simp only [Act.put, List.setIfInBounds_toArray, List.set_cons_zero, List.set_cons_succ]
      refine wpAnyH_take (i := 8) (oi := ⟨some 42, _, _, _, _, _⟩) (v := ?_) rfl (by kernel_rfl) (by kernel_rfl) (by kernel_rfl) (fun _ _ _ h => h) (Or.inl ⟨by rfl, ?_⟩) (by assumption) ?_
      rotate_left
      · (intro wq hSw; (try dsimp only at hSw); have d := hSw.cells; go_simp; try with_reducible rfl)
      try simp only [Act.put, List.setIfInBounds_toArray, List.set_cons_zero, List.set_cons_succ]
      refine wpAnyH_ready (rs := [6]) (by kernel_rfl) (by simp) ?_
      refine AllReadyH.cons (o := ⟨some 40, _, _, _, _, _⟩) rfl (fun K hK => ?_) AllReadyH.nil
      go_simp
      refine (vou2_any ch hch c.den (by omega) _).mono ?_; rintro e z4 ⟨rfl, y4⟩; have hb := h3.drew.keep y4
      refine hK.out _ _ (hHeld.keep y4) (fun hHeld => ?_)
      clear hK K
      try simp only [Act.put, List.setIfInBounds_toArray, List.set_cons_zero, List.set_cons_succ]
      refine wpAnyH_ready (rs := [9]) (by kernel_rfl) (by simp) ?_
      refine AllReadyH.cons (o := ⟨some 43, _, _, _, _, _⟩) rfl (fun K hK => ?_) AllReadyH.nil
      go_simp
      refine (rMintB c.to (vouL ch c.den) c.amt hn _ hb).mono ?_; rintro e z9 ⟨rfl, h9, k9⟩
      refine hK.out _ _ (hHeld.keepS k9 (hb.ne hHeld (by decide))) (fun hHeld => ?_)
      clear hK K
      try simp only [Act.put, List.setIfInBounds_toArray, List.set_cons_zero, List.set_cons_succ]
      refine wpAnyH_take (i := 10) (oi := ⟨some 8, _, _, _, _, _⟩) (v := ?_) rfl (by kernel_rfl) (by kernel_rfl) (by kernel_rfl) (fun _ _ _ h => h) (Or.inl ⟨by rfl, ?_⟩) (by assumption) ?_
      rotate_left
      · (intro wq hSw; (try dsimp only at hSw); go_simp; try with_reducible rfl)
      try simp only [Act.put, List.setIfInBounds_toArray, List.set_cons_zero, List.set_cons_succ]
      refine wpAnyH_done (by kernel_rfl) ?_ _
      have K : Hid (Keeps (fun k => k = b) w z9) := (((n3.drew.then y4 (fun _ h => h.elim)).mono (fun _ _ h => h.elim))).then k9 (fun _ h => .inl h)
      have H9 := Lib.hid h9
      clear d3 q3 h3 n3 k9 y4 hb h9 hHeld S5
      go_wp2_with fail
      go_ret
      exact ⟨by rw [HR.out]; rfl, by rw [HS.out]; exact H9.out, K.out⟩
    · have HR : Hid (inE s ch pe c = sendE s (escL ch) c.to (homeL pe c.den) c.amt) := by rw [Hid]; unfold inE; rw [if_pos hc, hh]; rfl
      have HS : Hid (inS s ch pe c = sendS s (escL ch) c.to (homeL pe c.den) c.amt) := by rw [Hid]; unfold inS; rw [if_pos hc, hh]; rfl
      rw [hh] at HM
      clear hc hh
      generalize homeL pe c.den = hd at *
      go_enter Try.func29, Try.ntmps29
      go_wp2_with fail
      generalize World.alloc w _ = W at *
      generalize w.heap.size = q at *
      have d := q1.cells
      refine (CK _).mono ?_
      rintro e w2 ⟨rfl, k2⟩
      have n2 := n1.then k2 (fun _ h => h.elim)
      have q2 := q1.keep k2
      have h2 := h1.keep k2
      clear n1 q1 h1 d CK k2 h
      have d2 := q2.cells
      go_wp2_with fail
      refine (HM _).mono ?_
      rintro e w3 ⟨rfl, k3⟩
      have n3 := n2.then k3 (fun _ h => h.elim)
      have q3 := q2.keep k3
      have h3 := h2.keep k3
      clear n2 q2 h2 d2 HM k3
      have d3 := q3.cells
      have S5 := q3.drew
      go_wp2_with fail
      refine wp_region_held_drew (S := (fun w' => cn w' q c)) (by kernel_rfl) ?_ (fun hHeld => ?_)
      · exact S5
      refine wpAnyH_take (i := 0) (oi := ⟨some 25, _, _, _, _, _⟩) (v := ?_) rfl (by kernel_rfl) (by kernel_rfl) (by kernel_rfl) (fun _ _ _ h => h) (Or.inl ⟨by rfl, ?_⟩) (by assumption) ?_
      rotate_left
      · (intro wq hSw; (try dsimp only at hSw); go_simp; try with_reducible rfl)
      try simp only [Act.put, List.setIfInBounds_toArray, List.set_cons_zero, List.set_cons_succ]
      refine wpAnyH_take (i := 1) (oi := ⟨some 26, _, _, _, _, _⟩) (v := ?_) rfl (by kernel_rfl) (by kernel_rfl) (by kernel_rfl) (fun _ _ _ h => h) (Or.inl ⟨by rfl, ?_⟩) (by assumption) ?_
      rotate_left
      · (intro wq hSw; (try dsimp only at hSw); go_simp; try with_reducible rfl)
      try simp only [Act.put, List.setIfInBounds_toArray, List.set_cons_zero, List.set_cons_succ]
      refine wpAnyH_take (i := 3) (oi := ⟨some 28, _, _, _, _, _⟩) (v := ?_) rfl (by kernel_rfl) (by kernel_rfl) (by kernel_rfl) (fun _ _ _ h => h) (Or.inl ⟨by rfl, ?_⟩) (by assumption) ?_
      rotate_left
      · (intro wq hSw; (try dsimp only at hSw); go_simp; try with_reducible rfl)
      try simp only [Act.put, List.setIfInBounds_toArray, List.set_cons_zero, List.set_cons_succ]
      refine wpAnyH_take (i := 4) (oi := ⟨some 29, _, _, _, _, _⟩) (v := ?_) rfl (by kernel_rfl) (by kernel_rfl) (by kernel_rfl) (fun _ _ _ h => h) (Or.inl ⟨by rfl, ?_⟩) (by assumption) ?_
      rotate_left
      · (intro wq hSw; (try dsimp only at hSw); have d := hSw.cells; go_simp; try with_reducible rfl)
      try simp only [Act.put, List.setIfInBounds_toArray, List.set_cons_zero, List.set_cons_succ]
      refine wpAnyH_take (i := 5) (oi := ⟨some 30, _, _, _, _, _⟩) (v := ?_) rfl (by kernel_rfl) (by kernel_rfl) (by kernel_rfl) (fun _ _ _ h => h) (Or.inl ⟨by rfl, ?_⟩) (by assumption) ?_
      rotate_left
      · (intro wq hSw; (try dsimp only at hSw); go_simp; try with_reducible rfl)
      try simp only [Act.put, List.setIfInBounds_toArray, List.set_cons_zero, List.set_cons_succ]
      refine wpAnyH_take (i := 6) (oi := ⟨some 31, _, _, _, _, _⟩) (v := ?_) rfl (by kernel_rfl) (by kernel_rfl) (by kernel_rfl) (fun _ _ _ h => h) (Or.inl ⟨by rfl, ?_⟩) (by assumption) ?_
      rotate_left
      · (intro wq hSw; (try dsimp only at hSw); go_simp; try with_reducible rfl)
      try simp only [Act.put, List.setIfInBounds_toArray, List.set_cons_zero, List.set_cons_succ]
      refine wpAnyH_take (i := 7) (oi := ⟨some 32, _, _, _, _, _⟩) (v := ?_) rfl (by kernel_rfl) (by kernel_rfl) (by kernel_rfl) (fun _ _ _ h => h) (Or.inl ⟨by rfl, ?_⟩) (by assumption) ?_
      rotate_left
      · (intro wq hSw; (try dsimp only at hSw); have d := hSw.cells; go_simp; try with_reducible rfl)
      try simp only [Act.put, List.setIfInBounds_toArray, List.set_cons_zero, List.set_cons_succ]
      refine wpAnyH_ready (rs := [2]) (by kernel_rfl) (by simp) ?_
      refine AllReadyH.cons (o := ⟨some 27, _, _, _, _, _⟩) rfl (fun K hK => ?_) AllReadyH.nil
      go_simp
      refine (esc2_any ch hch _).mono ?_; rintro e z4 ⟨rfl, y4⟩; have hb := h3.drew.keep y4
      refine hK.out _ _ (hHeld.keep y4) (fun hHeld => ?_)
      clear hK K
      try simp only [Act.put, List.setIfInBounds_toArray, List.set_cons_zero, List.set_cons_succ]
      refine wpAnyH_ready (rs := [8]) (by kernel_rfl) (by simp) ?_
      refine AllReadyH.cons (o := ⟨some 33, _, _, _, _, _⟩) rfl (fun K hK => ?_) AllReadyH.nil
      go_simp
      refine (rSendB (escL ch) c.to hd c.amt hv hn _ hb).mono ?_; rintro e z9 ⟨rfl, h9, k9⟩
      refine hK.out _ _ (hHeld.keepS k9 (hb.ne hHeld (by decide))) (fun hHeld => ?_)
      clear hK K
      try simp only [Act.put, List.setIfInBounds_toArray, List.set_cons_zero, List.set_cons_succ]
      refine wpAnyH_take (i := 9) (oi := ⟨some 8, _, _, _, _, _⟩) (v := ?_) rfl (by kernel_rfl) (by kernel_rfl) (by kernel_rfl) (fun _ _ _ h => h) (Or.inl ⟨by rfl, ?_⟩) (by assumption) ?_
      rotate_left
      · (intro wq hSw; (try dsimp only at hSw); go_simp; try with_reducible rfl)
      try simp only [Act.put, List.setIfInBounds_toArray, List.set_cons_zero, List.set_cons_succ]
      refine wpAnyH_done (by kernel_rfl) ?_ _
      have K : Hid (Keeps (fun k => k = b) w z9) := (((n3.drew.then y4 (fun _ h => h.elim)).mono (fun _ _ h => h.elim))).then k9 (fun _ h => .inl h)
      have H9 := Lib.hid h9
      clear d3 q3 h3 n3 k9 y4 hb h9 hHeld S5
      go_wp2_with fail
      go_ret
      exact ⟨by rw [HR.out]; rfl, by rw [HS.out]; exact H9.out, K.out⟩
  · have HR : Hid (inE s ch pe c = chkC c) := by rw [Hid]; unfold inE; rw [if_neg hc]
    have HS : Hid (inS s ch pe c = s) := by rw [Hid]; unfold inS; rw [if_neg hc]
    have e1 : (chkC c != 0) = true := by simpa using hc
    have e0 : (chkC c == 0) = false := by simpa using hc
    clear hc
    generalize chkC c = cc at *
    go_enter Try.func29, Try.ntmps29
    go_wp2_with fail
    generalize World.alloc w _ = W at *
    generalize w.heap.size = q at *
    have d := q1.cells
    refine (CK _).mono ?_
    rintro e w2 ⟨rfl, k2⟩
    have n2 := n1.then k2 (fun _ h => h.elim)
    have q2 := q1.keep k2
    have h2 := h1.keep k2
    clear n1 q1 h1 d CK k2 h
    have K : Hid (Keeps (fun k => k = b) w w2) := n2.mono (fun _ _ h => h.elim)
    go_wp2_with fail
    go_ret
    exact ⟨by rw [HR.out]; rfl, by rw [HS.out]; exact h2.mono (by omega), K.out⟩
set_option maxHeartbeats 4000000 in
set_option maxRecDepth 100000 in
theorem rBackB {w0 : World} {b n : Nat} {s : BkS} (ch : Nat) (hch : U64 ch) (c : Co) (hv : U64 c.amt) (hn : n ≤ 90000) (w : World) (h : Rk w0 w b n s) :
    Calls Try.prog 31 #[.pointer (some ⟨b, 0, none⟩), .int .u64 ch, .agg #[.string ⟨c.den.toArray⟩, .int .u64 c.amt, .string ⟨c.fr.toArray⟩, .string ⟨c.to.toArray⟩]] w fun e w' => e = .returned (.int .i64 (backE s ch c)) ∧ Rk w0 w' b (n + 2) (backS s ch c) ∧ Keeps (fun k => k = b) w w' := by
  have n1 : New w (w.alloc (.cells #[.string ⟨c.den.toArray⟩, .int .u64 c.amt, .string ⟨c.fr.toArray⟩, .string ⟨c.to.toArray⟩] 41)) := (New.refl w).alloc _
  have q1 : cn (w.alloc (.cells #[.string ⟨c.den.toArray⟩, .int .u64 c.amt, .string ⟨c.fr.toArray⟩, .string ⟨c.to.toArray⟩] 41)) w.heap.size c := heap_alloc_new w _
  have h1 := h.keep n1
  have CK := fun w => rWrongC c hv w
  by_cases hc : chkC c = 0
  · obtain ⟨hd1, hd2, hf1, hf2, ht1, ht2, ha0, hef, het⟩ := chkC_zero hc
    have HM := fun w => home2_any ch hch c.den w
    rw [hc] at CK
    rcases hh : isHome ch c.den with _ | _
    · have HR : Hid (backE s ch c = sendE s (escL ch) c.fr c.den c.amt) := by rw [Hid]; unfold backE; rw [if_pos hc, hh]; rfl
      have HS : Hid (backS s ch c = sendS s (escL ch) c.fr c.den c.amt) := by rw [Hid]; unfold backS; rw [if_pos hc, hh]; rfl
      rw [hh] at HM
      clear hc hh
      go_enter Try.func31, Try.ntmps31
      go_wp2_with fail
      generalize World.alloc w _ = W at *
      generalize w.heap.size = q at *
      have d := q1.cells
      refine (CK _).mono ?_
      rintro e w2 ⟨rfl, k2⟩
      have n2 := n1.then k2 (fun _ h => h.elim)
      have q2 := q1.keep k2
      have h2 := h1.keep k2
      clear n1 q1 h1 d CK k2 h
      have d2 := q2.cells
      go_wp2_with fail
      refine (HM _).mono ?_
      rintro e w3 ⟨rfl, k3⟩
      have n3 := n2.then k3 (fun _ h => h.elim)
      have q3 := q2.keep k3
      have h3 := h2.keep k3
      clear n2 q2 h2 d2 HM k3
      have d3 := q3.cells
      have S5 := q3.drew
      go_wp2_with fail
      refine wp_region_held_drew (S := (fun w' => cn w' q c)) (by kernel_rfl) ?_ (fun hHeld => ?_)
      · exact S5
      refine wpAnyH_take (i := 0) (oi := ⟨some 31, _, _, _, _, _⟩) (v := ?_) rfl (by kernel_rfl) (by kernel_rfl) (by kernel_rfl) (fun _ _ _ h => h) (Or.inl ⟨by rfl, ?_⟩) (by assumption) ?_
      rotate_left
      · (intro wq hSw; (try dsimp only at hSw); go_simp; try with_reducible rfl)
      try simp only [Act.put, List.setIfInBounds_toArray, List.set_cons_zero, List.set_cons_succ]
      refine wpAnyH_take (i := 1) (oi := ⟨some 32, _, _, _, _, _⟩) (v := ?_) rfl (by kernel_rfl) (by kernel_rfl) (by kernel_rfl) (fun _ _ _ h => h) (Or.inl ⟨by rfl, ?_⟩) (by assumption) ?_
      rotate_left
      · (intro wq hSw; (try dsimp only at hSw); go_simp; try with_reducible rfl)
      try simp only [Act.put, List.setIfInBounds_toArray, List.set_cons_zero, List.set_cons_succ]
      refine wpAnyH_take (i := 3) (oi := ⟨some 34, _, _, _, _, _⟩) (v := ?_) rfl (by kernel_rfl) (by kernel_rfl) (by kernel_rfl) (fun _ _ _ h => h) (Or.inl ⟨by rfl, ?_⟩) (by assumption) ?_
      rotate_left
      · (intro wq hSw; (try dsimp only at hSw); go_simp; try with_reducible rfl)
      try simp only [Act.put, List.setIfInBounds_toArray, List.set_cons_zero, List.set_cons_succ]
      refine wpAnyH_take (i := 4) (oi := ⟨some 35, _, _, _, _, _⟩) (v := ?_) rfl (by kernel_rfl) (by kernel_rfl) (by kernel_rfl) (fun _ _ _ h => h) (Or.inl ⟨by rfl, ?_⟩) (by assumption) ?_
      rotate_left
      · (intro wq hSw; (try dsimp only at hSw); have d := hSw.cells; go_simp; try with_reducible rfl)
      try simp only [Act.put, List.setIfInBounds_toArray, List.set_cons_zero, List.set_cons_succ]
      refine wpAnyH_take (i := 5) (oi := ⟨some 36, _, _, _, _, _⟩) (v := ?_) rfl (by kernel_rfl) (by kernel_rfl) (by kernel_rfl) (fun _ _ _ h => h) (Or.inl ⟨by rfl, ?_⟩) (by assumption) ?_
      rotate_left
      · (intro wq hSw; (try dsimp only at hSw); go_simp; try with_reducible rfl)
      try simp only [Act.put, List.setIfInBounds_toArray, List.set_cons_zero, List.set_cons_succ]
      refine wpAnyH_take (i := 6) (oi := ⟨some 37, _, _, _, _, _⟩) (v := ?_) rfl (by kernel_rfl) (by kernel_rfl) (by kernel_rfl) (fun _ _ _ h => h) (Or.inl ⟨by rfl, ?_⟩) (by assumption) ?_
      rotate_left
      · (intro wq hSw; (try dsimp only at hSw); have d := hSw.cells; go_simp; try with_reducible rfl)
      try simp only [Act.put, List.setIfInBounds_toArray, List.set_cons_zero, List.set_cons_succ]
      refine wpAnyH_take (i := 7) (oi := ⟨some 38, _, _, _, _, _⟩) (v := ?_) rfl (by kernel_rfl) (by kernel_rfl) (by kernel_rfl) (fun _ _ _ h => h) (Or.inl ⟨by rfl, ?_⟩) (by assumption) ?_
      rotate_left
      · (intro wq hSw; (try dsimp only at hSw); go_simp; try with_reducible rfl)
      try simp only [Act.put, List.setIfInBounds_toArray, List.set_cons_zero, List.set_cons_succ]
      refine wpAnyH_take (i := 8) (oi := ⟨some 39, _, _, _, _, _⟩) (v := ?_) rfl (by kernel_rfl) (by kernel_rfl) (by kernel_rfl) (fun _ _ _ h => h) (Or.inl ⟨by rfl, ?_⟩) (by assumption) ?_
      rotate_left
      · (intro wq hSw; (try dsimp only at hSw); have d := hSw.cells; go_simp; try with_reducible rfl)
      try simp only [Act.put, List.setIfInBounds_toArray, List.set_cons_zero, List.set_cons_succ]
      refine wpAnyH_ready (rs := [2]) (by kernel_rfl) (by simp) ?_
      refine AllReadyH.cons (o := ⟨some 33, _, _, _, _, _⟩) rfl (fun K hK => ?_) AllReadyH.nil
      go_simp
      refine (esc2_any ch hch _).mono ?_; rintro e z4 ⟨rfl, y4⟩; have hb := h3.drew.keep y4
      refine hK.out _ _ (hHeld.keep y4) (fun hHeld => ?_)
      clear hK K
      try simp only [Act.put, List.setIfInBounds_toArray, List.set_cons_zero, List.set_cons_succ]
      refine wpAnyH_ready (rs := [9]) (by kernel_rfl) (by simp) ?_
      refine AllReadyH.cons (o := ⟨some 40, _, _, _, _, _⟩) rfl (fun K hK => ?_) AllReadyH.nil
      go_simp
      refine (rSendB (escL ch) c.fr c.den c.amt hv hn _ hb).mono ?_; rintro e z9 ⟨rfl, h9, k9⟩
      refine hK.out _ _ (hHeld.keepS k9 (hb.ne hHeld (by decide))) (fun hHeld => ?_)
      clear hK K
      try simp only [Act.put, List.setIfInBounds_toArray, List.set_cons_zero, List.set_cons_succ]
      refine wpAnyH_take (i := 10) (oi := ⟨some 6, _, _, _, _, _⟩) (v := ?_) rfl (by kernel_rfl) (by kernel_rfl) (by kernel_rfl) (fun _ _ _ h => h) (Or.inl ⟨by rfl, ?_⟩) (by assumption) ?_
      rotate_left
      · (intro wq hSw; (try dsimp only at hSw); go_simp; try with_reducible rfl)
      try simp only [Act.put, List.setIfInBounds_toArray, List.set_cons_zero, List.set_cons_succ]
      refine wpAnyH_done (by kernel_rfl) ?_ _
      have K : Hid (Keeps (fun k => k = b) w z9) := (((n3.drew.then y4 (fun _ h => h.elim)).mono (fun _ _ h => h.elim))).then k9 (fun _ h => .inl h)
      have H9 := Lib.hid h9
      clear d3 q3 h3 n3 k9 y4 hb h9 hHeld S5
      go_wp2_with fail
      go_ret
      exact ⟨by rw [HR.out]; rfl, by rw [HS.out]; exact H9.out, K.out⟩
    · have HR : Hid (backE s ch c = mintE s c.fr c.den c.amt) := by rw [Hid]; unfold backE; rw [if_pos hc, hh]; rfl
      have HS : Hid (backS s ch c = mintS s c.fr c.den c.amt) := by rw [Hid]; unfold backS; rw [if_pos hc, hh]; rfl
      rw [hh] at HM
      clear hc hh
      go_enter Try.func31, Try.ntmps31
      go_wp2_with fail
      generalize World.alloc w _ = W at *
      generalize w.heap.size = q at *
      have d := q1.cells
      refine (CK _).mono ?_
      rintro e w2 ⟨rfl, k2⟩
      have n2 := n1.then k2 (fun _ h => h.elim)
      have q2 := q1.keep k2
      have h2 := h1.keep k2
      clear n1 q1 h1 d CK k2 h
      have d2 := q2.cells
      go_wp2_with fail
      refine (HM _).mono ?_
      rintro e w3 ⟨rfl, k3⟩
      have n3 := n2.then k3 (fun _ h => h.elim)
      have q3 := q2.keep k3
      have h3 := h2.keep k3
      clear n2 q2 h2 d2 HM k3
      have d3 := q3.cells
      go_wp2_with fail
      refine (rMintB c.fr c.den c.amt hn _ h3).mono ?_
      rintro e w4 ⟨rfl, h4, k4⟩
      have K : Hid (Keeps (fun k => k = b) w w4) := (n3.mono (fun _ _ h => h.elim)).then k4 (fun _ h => .inl h)
      clear d3 q3 h3 n3 k4
      go_wp2_with fail
      go_ret
      exact ⟨by rw [HR.out]; rfl, by rw [HS.out]; exact h4, K.out⟩
  · have HR : Hid (backE s ch c = chkC c) := by rw [Hid]; unfold backE; rw [if_neg hc]
    have HS : Hid (backS s ch c = s) := by rw [Hid]; unfold backS; rw [if_neg hc]
    have e1 : (chkC c != 0) = true := by simpa using hc
    have e0 : (chkC c == 0) = false := by simpa using hc
    clear hc
    generalize chkC c = cc at *
    go_enter Try.func31, Try.ntmps31
    go_wp2_with fail
    generalize World.alloc w _ = W at *
    generalize w.heap.size = q at *
    have d := q1.cells
    refine (CK _).mono ?_
    rintro e w2 ⟨rfl, k2⟩
    have n2 := n1.then k2 (fun _ h => h.elim)
    have q2 := q1.keep k2
    have h2 := h1.keep k2
    clear n1 q1 h1 d CK k2 h
    have K : Hid (Keeps (fun k => k = b) w w2) := n2.mono (fun _ _ h => h.elim)
    go_wp2_with fail
    go_ret
    exact ⟨by rw [HR.out]; rfl, by rw [HS.out]; exact h2.mono (by omega), K.out⟩
end Go.Proofs.Ytcldbipipehedaa
