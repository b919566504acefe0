/-
  WALKS: transfer.Out, In, Back over a bank.
-/
import Derived.Test.YtcldbipipehedaaTr1
namespace Go.Proofs.Ytcldbipipehedaa
open Go.RowKit Go.ChangeMaps
def outE (s : BkS) (ch : Nat) (c : Co) : Int := if chkC c = 0 then (if isHome ch c.den then burnE s c.fr c.den c.amt else sendE s c.fr (escL ch) c.den c.amt) else chkC c
def outS (s : BkS) (ch : Nat) (c : Co) : BkS := if chkC c = 0 then (if isHome ch c.den then burnS s c.fr c.den c.amt else sendS s c.fr (escL ch) c.den c.amt) else s
def inE (s : BkS) (ch pe : Nat) (c : Co) : Int := if chkC c = 0 then (if isHome pe c.den then sendE s (escL ch) c.to (homeL pe c.den) c.amt else mintE s c.to (vouL ch c.den) c.amt) else chkC c
def inS (s : BkS) (ch pe : Nat) (c : Co) : BkS := if chkC c = 0 then (if isHome pe c.den then sendS s (escL ch) c.to (homeL pe c.den) c.amt else mintS s c.to (vouL ch c.den) c.amt) else s
def backE (s : BkS) (ch : Nat) (c : Co) : Int := if chkC c = 0 then (if isHome ch c.den then mintE s c.fr c.den c.amt else sendE s (escL ch) c.fr c.den c.amt) else chkC c
def backS (s : BkS) (ch : Nat) (c : Co) : BkS := if chkC c = 0 then (if isHome ch c.den then mintS s c.fr c.den c.amt else sendS s (escL ch) c.fr c.den c.amt) else s
theorem chkC_zero {c : Co} (h : chkC c = 0) : 1 ≤ c.den.length ∧ c.den.length ≤ 128 ∧ 1 ≤ c.fr.length ∧ c.fr.length ≤ 32 ∧ 1 ≤ c.to.length ∧ c.to.length ≤ 32 ∧ 0 < c.amt ∧ isEsc c.fr = false ∧ isEsc c.to = false := by
  unfold chkC at h
  split at h
  · rename_i hr
    unfold rightC okN at hr
    simp only [Bool.and_eq_true, decide_eq_true_eq] at hr
    split at h
    · cases h
    · rename_i he
      simp only [Bool.or_eq_true, not_or, Bool.not_eq_true] at he
      exact ⟨by omega, by omega, by omega, by omega, by omega, by omega, by omega, he.1, he.2⟩
  · cases h
theorem Bk.not_two {w : World} {b mb ms n : Nat} {s : BkS} (h : Bk w b mb ms n s) {c : Array Value} {T : TypeId} {g : Nat × Nat} {a : Nat} (hc : w.heap[a]? = some (.cells c T g)) : ¬ Two mb ms a := by
  rintro (e | e)
  · exact h.mp.not_cells hc e
  · exact h.su.not_cells hc e
set_option maxHeartbeats 4000000 in
set_option maxRecDepth 100000 in
theorem out_any (b mb ms n : Nat) (s : BkS) (ch : Nat) (hch : U64 ch) (c : Co) (hv : U64 c.amt) (hn : n ≤ 1000000) (w : World) (h : Bk w b mb ms n s) :
    Calls Try.prog 26 #[.pointer (some ⟨b, 0, none⟩), .int .u64 ch, .agg #[.string ⟨c.den.toArray⟩, .int .u64 c.amt, .string ⟨c.fr.toArray⟩, .string ⟨c.to.toArray⟩]] w fun e w' => e = .returned (.int .i64 (outE s ch c)) ∧ Bk w' b mb ms (n + 2) (outS s ch c) ∧ Keeps (Two mb ms) w w' := by
  have n1 : New w (w.alloc (.cells #[.string ⟨c.den.toArray⟩, .int .u64 c.amt, .string ⟨c.fr.toArray⟩, .string ⟨c.to.toArray⟩] 41)) := (New.refl w).alloc _
  have q1 : cn (w.alloc (.cells #[.string ⟨c.den.toArray⟩, .int .u64 c.amt, .string ⟨c.fr.toArray⟩, .string ⟨c.to.toArray⟩] 41)) w.heap.size c := heap_alloc_new w _
  have h1 := h.keep n1
  have CK := fun w => chkC_any c w
  by_cases hc : chkC c = 0
  · obtain ⟨hd1, hd2, hf1, hf2, ht1, ht2, ha0, hef, het⟩ := chkC_zero hc
    have HM := fun w => home_any ch hch c.den w
    rw [hc] at CK
    rcases hh : isHome ch c.den with _ | _
    · have HR : Hid (outE s ch c = sendE s c.fr (escL ch) c.den c.amt) := by rw [Hid]; unfold outE; rw [if_pos hc, hh]; rfl
      have HS : Hid (outS s ch c = sendS s c.fr (escL ch) c.den c.amt) := by rw [Hid]; unfold outS; rw [if_pos hc, hh]; rfl
      rw [hh] at HM
      clear hc hh
      go_enter Try.func26, Try.ntmps26
      go_wp2_with fail
      generalize World.alloc w _ = W at *
      generalize w.heap.size = q at *
      have d := q1.cells
      refine (CK _).mono ?_
      rintro e w2 ⟨rfl, k2⟩
      have n2 := n1.then k2 (fun _ h => h.elim)
      have q2 := q1.keep k2
      have h2 := h1.keep k2
      clear n1 q1 h1 d CK k2 h
      have d2 := q2.cells
      go_wp2_with fail
      refine (HM _).mono ?_
      rintro e w3 ⟨rfl, k3⟩
      have n3 := n2.then k3 (fun _ h => h.elim)
      have q3 := q2.keep k3
      have h3 := h2.keep k3
      clear n2 q2 h2 d2 HM k3
      have d3 := q3.cells
      have S5 := q3.drew
      go_wp2_with fail
      refine wp_region_held_drew (S := (fun w' => cn w' q c)) (by kernel_rfl) ?_ (fun hHeld => ?_)
      · exact S5
      refine wpAnyH_take (i := 0) (oi := ⟨some 31, _, _, _, _, _⟩) (v := ?_) rfl (by kernel_rfl) (by kernel_rfl) (by kernel_rfl) (fun _ _ _ h => h) (Or.inl ⟨by rfl, ?_⟩) (by assumption) ?_
      rotate_left
      · (intro wq hSw; (try dsimp only at hSw); go_simp; try with_reducible rfl)
      try simp only [Act.put, List.setIfInBounds_toArray, List.set_cons_zero, List.set_cons_succ]
      refine wpAnyH_take (i := 1) (oi := ⟨some 32, _, _, _, _, _⟩) (v := ?_) rfl (by kernel_rfl) (by kernel_rfl) (by kernel_rfl) (fun _ _ _ h => h) (Or.inl ⟨by rfl, ?_⟩) (by assumption) ?_
      rotate_left
      · (intro wq hSw; (try dsimp only at hSw); go_simp; try with_reducible rfl)
      try simp only [Act.put, List.setIfInBounds_toArray, List.set_cons_zero, List.set_cons_succ]
      refine wpAnyH_take (i := 2) (oi := ⟨some 33, _, _, _, _, _⟩) (v := ?_) rfl (by kernel_rfl) (by kernel_rfl) (by kernel_rfl) (fun _ _ _ h => h) (Or.inl ⟨by rfl, ?_⟩) (by assumption) ?_
      rotate_left
      · (intro wq hSw; (try dsimp only at hSw); have d := hSw.cells; go_simp; try with_reducible rfl)
      try simp only [Act.put, List.setIfInBounds_toArray, List.set_cons_zero, List.set_cons_succ]
      refine wpAnyH_take (i := 3) (oi := ⟨some 34, _, _, _, _, _⟩) (v := ?_) rfl (by kernel_rfl) (by kernel_rfl) (by kernel_rfl) (fun _ _ _ h => h) (Or.inl ⟨by rfl, ?_⟩) (by assumption) ?_
      rotate_left
      · (intro wq hSw; (try dsimp only at hSw); go_simp; try with_reducible rfl)
      try simp only [Act.put, List.setIfInBounds_toArray, List.set_cons_zero, List.set_cons_succ]
      refine wpAnyH_take (i := 5) (oi := ⟨some 36, _, _, _, _, _⟩) (v := ?_) rfl (by kernel_rfl) (by kernel_rfl) (by kernel_rfl) (fun _ _ _ h => h) (Or.inl ⟨by rfl, ?_⟩) (by assumption) ?_
      rotate_left
      · (intro wq hSw; (try dsimp only at hSw); go_simp; try with_reducible rfl)
      try simp only [Act.put, List.setIfInBounds_toArray, List.set_cons_zero, List.set_cons_succ]
      refine wpAnyH_take (i := 6) (oi := ⟨some 37, _, _, _, _, _⟩) (v := ?_) rfl (by kernel_rfl) (by kernel_rfl) (by kernel_rfl) (fun _ _ _ h => h) (Or.inl ⟨by rfl, ?_⟩) (by assumption) ?_
      rotate_left
      · (intro wq hSw; (try dsimp only at hSw); have d := hSw.cells; go_simp; try with_reducible rfl)
      try simp only [Act.put, List.setIfInBounds_toArray, List.set_cons_zero, List.set_cons_succ]
      refine wpAnyH_take (i := 7) (oi := ⟨some 38, _, _, _, _, _⟩) (v := ?_) rfl (by kernel_rfl) (by kernel_rfl) (by kernel_rfl) (fun _ _ _ h => h) (Or.inl ⟨by rfl, ?_⟩) (by assumption) ?_
      rotate_left
      · (intro wq hSw; (try dsimp only at hSw); go_simp; try with_reducible rfl)
      try simp only [Act.put, List.setIfInBounds_toArray, List.set_cons_zero, List.set_cons_succ]
      refine wpAnyH_take (i := 8) (oi := ⟨some 39, _, _, _, _, _⟩) (v := ?_) rfl (by kernel_rfl) (by kernel_rfl) (by kernel_rfl) (fun _ _ _ h => h) (Or.inl ⟨by rfl, ?_⟩) (by assumption) ?_
      rotate_left
      · (intro wq hSw; (try dsimp only at hSw); have d := hSw.cells; go_simp; try with_reducible rfl)
      try simp only [Act.put, List.setIfInBounds_toArray, List.set_cons_zero, List.set_cons_succ]
      refine wpAnyH_ready (rs := [4]) (by kernel_rfl) (by simp) ?_
      refine AllReadyH.cons (o := ⟨some 35, _, _, _, _, _⟩) rfl (fun K hK => ?_) AllReadyH.nil
      go_simp
      refine (esc_any ch hch _).mono ?_; rintro e z4 ⟨rfl, y4⟩; have hb := h3.drew.keep y4
      refine hK.out _ _ (hHeld.keep y4) (fun hHeld => ?_)
      clear hK K
      try simp only [Act.put, List.setIfInBounds_toArray, List.set_cons_zero, List.set_cons_succ]
      refine wpAnyH_ready (rs := [9]) (by kernel_rfl) (by simp) ?_
      refine AllReadyH.cons (o := ⟨some 40, _, _, _, _, _⟩) rfl (fun K hK => ?_) AllReadyH.nil
      go_simp
      refine (send_any b mb ms n s c.fr (escL ch) c.den c.amt hv hn _ hb).mono ?_; rintro e z9 ⟨rfl, h9, k9⟩
      refine hK.out _ _ (hHeld.keepS k9 (hb.not_two hHeld)) (fun hHeld => ?_)
      clear hK K
      try simp only [Act.put, List.setIfInBounds_toArray, List.set_cons_zero, List.set_cons_succ]
      refine wpAnyH_take (i := 10) (oi := ⟨some 6, _, _, _, _, _⟩) (v := ?_) rfl (by kernel_rfl) (by kernel_rfl) (by kernel_rfl) (fun _ _ _ h => h) (Or.inl ⟨by rfl, ?_⟩) (by assumption) ?_
      rotate_left
      · (intro wq hSw; (try dsimp only at hSw); go_simp; try with_reducible rfl)
      try simp only [Act.put, List.setIfInBounds_toArray, List.set_cons_zero, List.set_cons_succ]
      refine wpAnyH_done (by kernel_rfl) ?_ _
      have K : Hid (Keeps (Two mb ms) w z9) := (((n3.drew.then y4 (fun _ h => h.elim)).mono (fun _ _ h => h.elim))).then k9 (fun _ h => .inl h)
      have H9 := Lib.hid h9
      clear d3 q3 h3 n3 k9 y4 hb h9 hHeld S5
      go_wp2_with fail
      go_ret
      exact ⟨by rw [HR.out]; rfl, by rw [HS.out]; exact H9.out, K.out⟩
    · have HR : Hid (outE s ch c = burnE s c.fr c.den c.amt) := by rw [Hid]; unfold outE; rw [if_pos hc, hh]; rfl
      have HS : Hid (outS s ch c = burnS s c.fr c.den c.amt) := by rw [Hid]; unfold outS; rw [if_pos hc, hh]; rfl
      rw [hh] at HM
      clear hc hh
      go_enter Try.func26, Try.ntmps26
      go_wp2_with fail
      generalize World.alloc w _ = W at *
      generalize w.heap.size = q at *
      have d := q1.cells
      refine (CK _).mono ?_
      rintro e w2 ⟨rfl, k2⟩
      have n2 := n1.then k2 (fun _ h => h.elim)
      have q2 := q1.keep k2
      have h2 := h1.keep k2
      clear n1 q1 h1 d CK k2 h
      have d2 := q2.cells
      go_wp2_with fail
      refine (HM _).mono ?_
      rintro e w3 ⟨rfl, k3⟩
      have n3 := n2.then k3 (fun _ h => h.elim)
      have q3 := q2.keep k3
      have h3 := h2.keep k3
      clear n2 q2 h2 d2 HM k3
      have d3 := q3.cells
      go_wp2_with fail
      refine (burn_any b mb ms n s c.fr c.den c.amt hv hn _ h3).mono ?_
      rintro e w4 ⟨rfl, h4, k4⟩
      have K : Hid (Keeps (Two mb ms) w w4) := (n3.mono (fun _ _ h => h.elim)).then k4 (fun _ h => .inl h)
      clear d3 q3 h3 n3 k4
      go_wp2_with fail
      go_ret
      exact ⟨by rw [HR.out]; rfl, by rw [HS.out]; exact h4, K.out⟩
  · have HR : Hid (outE s ch c = chkC c) := by rw [Hid]; unfold outE; rw [if_neg hc]
    have HS : Hid (outS s ch c = s) := by rw [Hid]; unfold outS; rw [if_neg hc]
    have e1 : (chkC c != 0) = true := by simpa using hc
    have e0 : (chkC c == 0) = false := by simpa using hc
    clear hc
    generalize chkC c = cc at *
    go_enter Try.func26, Try.ntmps26
    go_wp2_with fail
    generalize World.alloc w _ = W at *
    generalize w.heap.size = q at *
    have d := q1.cells
    refine (CK _).mono ?_
    rintro e w2 ⟨rfl, k2⟩
    have n2 := n1.then k2 (fun _ h => h.elim)
    have q2 := q1.keep k2
    have h2 := h1.keep k2
    clear n1 q1 h1 d CK k2 h
    have K : Hid (Keeps (Two mb ms) w w2) := n2.mono (fun _ _ h => h.elim)
    go_wp2_with fail
    go_ret
    exact ⟨by rw [HR.out]; rfl, by rw [HS.out]; exact h2.mono (by omega), K.out⟩
set_option maxHeartbeats 4000000 in
set_option maxRecDepth 100000 in
theorem in_any (b mb ms n : Nat) (s : BkS) (ch pe : Nat) (hch : U64 ch) (hpe : U64 pe) (c : Co) (hv : U64 c.amt) (hn : n ≤ 1000000) (w : World) (h : Bk w b mb ms n s) :
    Calls Try.prog 28 #[.pointer (some ⟨b, 0, none⟩), .int .u64 ch, .int .u64 pe, .agg #[.string ⟨c.den.toArray⟩, .int .u64 c.amt, .string ⟨c.fr.toArray⟩, .string ⟨c.to.toArray⟩]] w fun e w' => e = .returned (.int .i64 (inE s ch pe c)) ∧ Bk w' b mb ms (n + 2) (inS s ch pe c) ∧ Keeps (Two mb ms) w w' := by
  have n1 : New w (w.alloc (.cells #[.string ⟨c.den.toArray⟩, .int .u64 c.amt, .string ⟨c.fr.toArray⟩, .string ⟨c.to.toArray⟩] 41)) := (New.refl w).alloc _
  have q1 : cn (w.alloc (.cells #[.string ⟨c.den.toArray⟩, .int .u64 c.amt, .string ⟨c.fr.toArray⟩, .string ⟨c.to.toArray⟩] 41)) w.heap.size c := heap_alloc_new w _
  have h1 := h.keep n1
  have CK := fun w => chkC_any c w
  by_cases hc : chkC c = 0
  · obtain ⟨hd1, hd2, hf1, hf2, ht1, ht2, ha0, hef, het⟩ := chkC_zero hc
    have HM := fun w => home_any pe hpe c.den w
    rw [hc] at CK
    rcases hh : isHome pe c.den with _ | _
    · have HR : Hid (inE s ch pe c = mintE s c.to (vouL ch c.den) c.amt) := by rw [Hid]; unfold inE; rw [if_pos hc, hh]; rfl
      have HS : Hid (inS s ch pe c = mintS s c.to (vouL ch c.den) c.amt) := by rw [Hid]; unfold inS; rw [if_pos hc, hh]; rfl
      rw [hh] at HM
      clear hc hh
      go_enter Try.func28, Try.ntmps28
      go_wp2_with fail
      generalize World.alloc w _ = W at *
      generalize w.heap.size = q at *
      have d := q1.cells
      refine (CK _).mono ?_
      rintro e w2 ⟨rfl, k2⟩
      have n2 := n1.then k2 (fun _ h => h.elim)
      have q2 := q1.keep k2
      have h2 := h1.keep k2
      clear n1 q1 h1 d CK k2 h
      have d2 := q2.cells
      go_wp2_with fail
      refine (HM _).mono ?_
      rintro e w3 ⟨rfl, k3⟩
      have n3 := n2.then k3 (fun _ h => h.elim)
      have q3 := q2.keep k3
      have h3 := h2.keep k3
      clear n2 q2 h2 d2 HM k3
      have d3 := q3.cells
      have S5 := q3.drew
      go_wp2_with fail
      refine wp_region_held_drew (S := (fun w' => cn w' q c)) (by kernel_rfl) ?_ (fun hHeld => ?_)
      · exact S5
      refine wpAnyH_take (i := 0) (oi := ⟨some 34, _, _, _, _, _⟩) (v := ?_) rfl (by kernel_rfl) (by kernel_rfl) (by kernel_rfl) (fun _ _ _ h => h) (Or.inl ⟨by rfl, ?_⟩) (by assumption) ?_
      rotate_left
      · (intro wq hSw; (try dsimp only at hSw); go_simp; try with_reducible rfl)
      try simp only [Act.put, List.setIfInBounds_toArray, List.set_cons_zero, List.set_cons_succ]
      refine wpAnyH_take (i := 1) (oi := ⟨some 35, _, _, _, _, _⟩) (v := ?_) rfl (by kernel_rfl) (by kernel_rfl) (by kernel_rfl) (fun _ _ _ h => h) (Or.inl ⟨by rfl, ?_⟩) (by assumption) ?_
      rotate_left
      · (intro wq hSw; (try dsimp only at hSw); go_simp; try with_reducible rfl)
      try simp only [Act.put, List.setIfInBounds_toArray, List.set_cons_zero, List.set_cons_succ]
      refine wpAnyH_take (i := 2) (oi := ⟨some 36, _, _, _, _, _⟩) (v := ?_) rfl (by kernel_rfl) (by kernel_rfl) (by kernel_rfl) (fun _ _ _ h => h) (Or.inl ⟨by rfl, ?_⟩) (by assumption) ?_
      rotate_left
      · (intro wq hSw; (try dsimp only at hSw); have d := hSw.cells; go_simp; try with_reducible rfl)
      try simp only [Act.put, List.setIfInBounds_toArray, List.set_cons_zero, List.set_cons_succ]
      refine wpAnyH_take (i := 3) (oi := ⟨some 37, _, _, _, _, _⟩) (v := ?_) rfl (by kernel_rfl) (by kernel_rfl) (by kernel_rfl) (fun _ _ _ h => h) (Or.inl ⟨by rfl, ?_⟩) (by assumption) ?_
      rotate_left
      · (intro wq hSw; (try dsimp only at hSw); go_simp; try with_reducible rfl)
      try simp only [Act.put, List.setIfInBounds_toArray, List.set_cons_zero, List.set_cons_succ]
      refine wpAnyH_take (i := 4) (oi := ⟨some 38, _, _, _, _, _⟩) (v := ?_) rfl (by kernel_rfl) (by kernel_rfl) (by kernel_rfl) (fun _ _ _ h => h) (Or.inl ⟨by rfl, ?_⟩) (by assumption) ?_
      rotate_left
      · (intro wq hSw; (try dsimp only at hSw); go_simp; try with_reducible rfl)
      try simp only [Act.put, List.setIfInBounds_toArray, List.set_cons_zero, List.set_cons_succ]
      refine wpAnyH_take (i := 5) (oi := ⟨some 39, _, _, _, _, _⟩) (v := ?_) rfl (by kernel_rfl) (by kernel_rfl) (by kernel_rfl) (fun _ _ _ h => h) (Or.inl ⟨by rfl, ?_⟩) (by assumption) ?_
      rotate_left
      · (intro wq hSw; (try dsimp only at hSw); have d := hSw.cells; go_simp; try with_reducible rfl)
      try simp only [Act.put, List.setIfInBounds_toArray, List.set_cons_zero, List.set_cons_succ]
      refine wpAnyH_take (i := 7) (oi := ⟨some 41, _, _, _, _, _⟩) (v := ?_) rfl (by kernel_rfl) (by kernel_rfl) (by kernel_rfl) (fun _ _ _ h => h) (Or.inl ⟨by rfl, ?_⟩) (by assumption) ?_
      rotate_left
      · (intro wq hSw; (try dsimp only at hSw); go_simp; try with_reducible rfl)
      try simp only [Act.put, List.setIfInBounds_toArray, List.set_cons_zero, List.set_cons_succ]
      refine wpAnyH_take (i := 8) (oi := ⟨some 42, _, _, _, _, _⟩) (v := ?_) rfl (by kernel_rfl) (by kernel_rfl) (by kernel_rfl) (fun _ _ _ h => h) (Or.inl ⟨by rfl, ?_⟩) (by assumption) ?_
      rotate_left
      · (intro wq hSw; (try dsimp only at hSw); have d := hSw.cells; go_simp; try with_reducible rfl)
      try simp only [Act.put, List.setIfInBounds_toArray, List.set_cons_zero, List.set_cons_succ]
      refine wpAnyH_ready (rs := [6]) (by kernel_rfl) (by simp) ?_
      refine AllReadyH.cons (o := ⟨some 40, _, _, _, _, _⟩) rfl (fun K hK => ?_) AllReadyH.nil
      go_simp
      refine (vou_any ch hch c.den (by omega) _).mono ?_; rintro e z4 ⟨rfl, y4⟩; have hb := h3.drew.keep y4
      refine hK.out _ _ (hHeld.keep y4) (fun hHeld => ?_)
      clear hK K
      try simp only [Act.put, List.setIfInBounds_toArray, List.set_cons_zero, List.set_cons_succ]
      refine wpAnyH_ready (rs := [9]) (by kernel_rfl) (by simp) ?_
      refine AllReadyH.cons (o := ⟨some 43, _, _, _, _, _⟩) rfl (fun K hK => ?_) AllReadyH.nil
      go_simp
      refine (mint_any b mb ms n s c.to (vouL ch c.den) c.amt hv hn _ hb).mono ?_; rintro e z9 ⟨rfl, h9, k9⟩
      refine hK.out _ _ (hHeld.keepS k9 (hb.not_two hHeld)) (fun hHeld => ?_)
      clear hK K
      try simp only [Act.put, List.setIfInBounds_toArray, List.set_cons_zero, List.set_cons_succ]
      refine wpAnyH_take (i := 10) (oi := ⟨some 8, _, _, _, _, _⟩) (v := ?_) rfl (by kernel_rfl) (by kernel_rfl) (by kernel_rfl) (fun _ _ _ h => h) (Or.inl ⟨by rfl, ?_⟩) (by assumption) ?_
      rotate_left
      · (intro wq hSw; (try dsimp only at hSw); go_simp; try with_reducible rfl)
      try simp only [Act.put, List.setIfInBounds_toArray, List.set_cons_zero, List.set_cons_succ]
      refine wpAnyH_done (by kernel_rfl) ?_ _
      have K : Hid (Keeps (Two mb ms) w z9) := (((n3.drew.then y4 (fun _ h => h.elim)).mono (fun _ _ h => h.elim))).then k9 (fun _ h => .inl h)
      have H9 := Lib.hid h9
      clear d3 q3 h3 n3 k9 y4 hb h9 hHeld S5
      go_wp2_with fail
      go_ret
      exact ⟨by rw [HR.out]; rfl, by rw [HS.out]; exact H9.out, K.out⟩
    · have HR : Hid (inE s ch pe c = sendE s (escL ch) c.to (homeL pe c.den) c.amt) := by rw [Hid]; unfold inE; rw [if_pos hc, hh]; rfl
      have HS : Hid (inS s ch pe c = sendS s (escL ch) c.to (homeL pe c.den) c.amt) := by rw [Hid]; unfold inS; rw [if_pos hc, hh]; rfl
      rw [hh] at HM
      clear hc hh
      generalize homeL pe c.den = hd at *
      go_enter Try.func28, Try.ntmps28
      go_wp2_with fail
      generalize World.alloc w _ = W at *
      generalize w.heap.size = q at *
      have d := q1.cells
      refine (CK _).mono ?_
      rintro e w2 ⟨rfl, k2⟩
      have n2 := n1.then k2 (fun _ h => h.elim)
      have q2 := q1.keep k2
      have h2 := h1.keep k2
      clear n1 q1 h1 d CK k2 h
      have d2 := q2.cells
      go_wp2_with fail
      refine (HM _).mono ?_
      rintro e w3 ⟨rfl, k3⟩
      have n3 := n2.then k3 (fun _ h => h.elim)
      have q3 := q2.keep k3
      have h3 := h2.keep k3
      clear n2 q2 h2 d2 HM k3
      have d3 := q3.cells
      have S5 := q3.drew
      go_wp2_with fail
      refine wp_region_held_drew (S := (fun w' => cn w' q c)) (by kernel_rfl) ?_ (fun hHeld => ?_)
      · exact S5
      refine wpAnyH_take (i := 0) (oi := ⟨some 25, _, _, _, _, _⟩) (v := ?_) rfl (by kernel_rfl) (by kernel_rfl) (by kernel_rfl) (fun _ _ _ h => h) (Or.inl ⟨by rfl, ?_⟩) (by assumption) ?_
      rotate_left
      · (intro wq hSw; (try dsimp only at hSw); go_simp; try with_reducible rfl)
      try simp only [Act.put, List.setIfInBounds_toArray, List.set_cons_zero, List.set_cons_succ]
      refine wpAnyH_take (i := 1) (oi := ⟨some 26, _, _, _, _, _⟩) (v := ?_) rfl (by kernel_rfl) (by kernel_rfl) (by kernel_rfl) (fun _ _ _ h => h) (Or.inl ⟨by rfl, ?_⟩) (by assumption) ?_
      rotate_left
      · (intro wq hSw; (try dsimp only at hSw); go_simp; try with_reducible rfl)
      try simp only [Act.put, List.setIfInBounds_toArray, List.set_cons_zero, List.set_cons_succ]
      refine wpAnyH_take (i := 3) (oi := ⟨some 28, _, _, _, _, _⟩) (v := ?_) rfl (by kernel_rfl) (by kernel_rfl) (by kernel_rfl) (fun _ _ _ h => h) (Or.inl ⟨by rfl, ?_⟩) (by assumption) ?_
      rotate_left
      · (intro wq hSw; (try dsimp only at hSw); go_simp; try with_reducible rfl)
      try simp only [Act.put, List.setIfInBounds_toArray, List.set_cons_zero, List.set_cons_succ]
      refine wpAnyH_take (i := 4) (oi := ⟨some 29, _, _, _, _, _⟩) (v := ?_) rfl (by kernel_rfl) (by kernel_rfl) (by kernel_rfl) (fun _ _ _ h => h) (Or.inl ⟨by rfl, ?_⟩) (by assumption) ?_
      rotate_left
      · (intro wq hSw; (try dsimp only at hSw); have d := hSw.cells; go_simp; try with_reducible rfl)
      try simp only [Act.put, List.setIfInBounds_toArray, List.set_cons_zero, List.set_cons_succ]
      refine wpAnyH_take (i := 5) (oi := ⟨some 30, _, _, _, _, _⟩) (v := ?_) rfl (by kernel_rfl) (by kernel_rfl) (by kernel_rfl) (fun _ _ _ h => h) (Or.inl ⟨by rfl, ?_⟩) (by assumption) ?_
      rotate_left
      · (intro wq hSw; (try dsimp only at hSw); go_simp; try with_reducible rfl)
      try simp only [Act.put, List.setIfInBounds_toArray, List.set_cons_zero, List.set_cons_succ]
      refine wpAnyH_take (i := 6) (oi := ⟨some 31, _, _, _, _, _⟩) (v := ?_) rfl (by kernel_rfl) (by kernel_rfl) (by kernel_rfl) (fun _ _ _ h => h) (Or.inl ⟨by rfl, ?_⟩) (by assumption) ?_
      rotate_left
      · (intro wq hSw; (try dsimp only at hSw); go_simp; try with_reducible rfl)
      try simp only [Act.put, List.setIfInBounds_toArray, List.set_cons_zero, List.set_cons_succ]
      refine wpAnyH_take (i := 7) (oi := ⟨some 32, _, _, _, _, _⟩) (v := ?_) rfl (by kernel_rfl) (by kernel_rfl) (by kernel_rfl) (fun _ _ _ h => h) (Or.inl ⟨by rfl, ?_⟩) (by assumption) ?_
      rotate_left
      · (intro wq hSw; (try dsimp only at hSw); have d := hSw.cells; go_simp; try with_reducible rfl)
      try simp only [Act.put, List.setIfInBounds_toArray, List.set_cons_zero, List.set_cons_succ]
      refine wpAnyH_ready (rs := [2]) (by kernel_rfl) (by simp) ?_
      refine AllReadyH.cons (o := ⟨some 27, _, _, _, _, _⟩) rfl (fun K hK => ?_) AllReadyH.nil
      go_simp
      refine (esc_any ch hch _).mono ?_; rintro e z4 ⟨rfl, y4⟩; have hb := h3.drew.keep y4
      refine hK.out _ _ (hHeld.keep y4) (fun hHeld => ?_)
      clear hK K
      try simp only [Act.put, List.setIfInBounds_toArray, List.set_cons_zero, List.set_cons_succ]
      refine wpAnyH_ready (rs := [8]) (by kernel_rfl) (by simp) ?_
      refine AllReadyH.cons (o := ⟨some 33, _, _, _, _, _⟩) rfl (fun K hK => ?_) AllReadyH.nil
      go_simp
      refine (send_any b mb ms n s (escL ch) c.to hd c.amt hv hn _ hb).mono ?_; rintro e z9 ⟨rfl, h9, k9⟩
      refine hK.out _ _ (hHeld.keepS k9 (hb.not_two hHeld)) (fun hHeld => ?_)
      clear hK K
      try simp only [Act.put, List.setIfInBounds_toArray, List.set_cons_zero, List.set_cons_succ]
      refine wpAnyH_take (i := 9) (oi := ⟨some 8, _, _, _, _, _⟩) (v := ?_) rfl (by kernel_rfl) (by kernel_rfl) (by kernel_rfl) (fun _ _ _ h => h) (Or.inl ⟨by rfl, ?_⟩) (by assumption) ?_
      rotate_left
      · (intro wq hSw; (try dsimp only at hSw); go_simp; try with_reducible rfl)
      try simp only [Act.put, List.setIfInBounds_toArray, List.set_cons_zero, List.set_cons_succ]
      refine wpAnyH_done (by kernel_rfl) ?_ _
      have K : Hid (Keeps (Two mb ms) w z9) := (((n3.drew.then y4 (fun _ h => h.elim)).mono (fun _ _ h => h.elim))).then k9 (fun _ h => .inl h)
      have H9 := Lib.hid h9
      clear d3 q3 h3 n3 k9 y4 hb h9 hHeld S5
      go_wp2_with fail
      go_ret
      exact ⟨by rw [HR.out]; rfl, by rw [HS.out]; exact H9.out, K.out⟩
  · have HR : Hid (inE s ch pe c = chkC c) := by rw [Hid]; unfold inE; rw [if_neg hc]
    have HS : Hid (inS s ch pe c = s) := by rw [Hid]; unfold inS; rw [if_neg hc]
    have e1 : (chkC c != 0) = true := by simpa using hc
    have e0 : (chkC c == 0) = false := by simpa using hc
    clear hc
    generalize chkC c = cc at *
    go_enter Try.func28, Try.ntmps28
    go_wp2_with fail
    generalize World.alloc w _ = W at *
    generalize w.heap.size = q at *
    have d := q1.cells
    refine (CK _).mono ?_
    rintro e w2 ⟨rfl, k2⟩
    have n2 := n1.then k2 (fun _ h => h.elim)
    have q2 := q1.keep k2
    have h2 := h1.keep k2
    clear n1 q1 h1 d CK k2 h
    have K : Hid (Keeps (Two mb ms) w w2) := n2.mono (fun _ _ h => h.elim)
    go_wp2_with fail
    go_ret
    exact ⟨by rw [HR.out]; rfl, by rw [HS.out]; exact h2.mono (by omega), K.out⟩
set_option maxHeartbeats 4000000 in
set_option maxRecDepth 100000 in
theorem back_any (b mb ms n : Nat) (s : BkS) (ch : Nat) (hch : U64 ch) (c : Co) (hv : U64 c.amt) (hn : n ≤ 1000000) (w : World) (h : Bk w b mb ms n s) :
    Calls Try.prog 30 #[.pointer (some ⟨b, 0, none⟩), .int .u64 ch, .agg #[.string ⟨c.den.toArray⟩, .int .u64 c.amt, .string ⟨c.fr.toArray⟩, .string ⟨c.to.toArray⟩]] w fun e w' => e = .returned (.int .i64 (backE s ch c)) ∧ Bk w' b mb ms (n + 2) (backS s ch c) ∧ Keeps (Two mb ms) w w' := by
  have n1 : New w (w.alloc (.cells #[.string ⟨c.den.toArray⟩, .int .u64 c.amt, .string ⟨c.fr.toArray⟩, .string ⟨c.to.toArray⟩] 41)) := (New.refl w).alloc _
  have q1 : cn (w.alloc (.cells #[.string ⟨c.den.toArray⟩, .int .u64 c.amt, .string ⟨c.fr.toArray⟩, .string ⟨c.to.toArray⟩] 41)) w.heap.size c := heap_alloc_new w _
  have h1 := h.keep n1
  have CK := fun w => chkC_any c w
  by_cases hc : chkC c = 0
  · obtain ⟨hd1, hd2, hf1, hf2, ht1, ht2, ha0, hef, het⟩ := chkC_zero hc
    have HM := fun w => home_any ch hch c.den w
    rw [hc] at CK
    rcases hh : isHome ch c.den with _ | _
    · have HR : Hid (backE s ch c = sendE s (escL ch) c.fr c.den c.amt) := by rw [Hid]; unfold backE; rw [if_pos hc, hh]; rfl
      have HS : Hid (backS s ch c = sendS s (escL ch) c.fr c.den c.amt) := by rw [Hid]; unfold backS; rw [if_pos hc, hh]; rfl
      rw [hh] at HM
      clear hc hh
      go_enter Try.func30, Try.ntmps30
      go_wp2_with fail
      generalize World.alloc w _ = W at *
      generalize w.heap.size = q at *
      have d := q1.cells
      refine (CK _).mono ?_
      rintro e w2 ⟨rfl, k2⟩
      have n2 := n1.then k2 (fun _ h => h.elim)
      have q2 := q1.keep k2
      have h2 := h1.keep k2
      clear n1 q1 h1 d CK k2 h
      have d2 := q2.cells
      go_wp2_with fail
      refine (HM _).mono ?_
      rintro e w3 ⟨rfl, k3⟩
      have n3 := n2.then k3 (fun _ h => h.elim)
      have q3 := q2.keep k3
      have h3 := h2.keep k3
      clear n2 q2 h2 d2 HM k3
      have d3 := q3.cells
      have S5 := q3.drew
      go_wp2_with fail
      refine wp_region_held_drew (S := (fun w' => cn w' q c)) (by kernel_rfl) ?_ (fun hHeld => ?_)
      · exact S5
      refine wpAnyH_take (i := 0) (oi := ⟨some 31, _, _, _, _, _⟩) (v := ?_) rfl (by kernel_rfl) (by kernel_rfl) (by kernel_rfl) (fun _ _ _ h => h) (Or.inl ⟨by rfl, ?_⟩) (by assumption) ?_
      rotate_left
      · (intro wq hSw; (try dsimp only at hSw); go_simp; try with_reducible rfl)
      try simp only [Act.put, List.setIfInBounds_toArray, List.set_cons_zero, List.set_cons_succ]
      refine wpAnyH_take (i := 1) (oi := ⟨some 32, _, _, _, _, _⟩) (v := ?_) rfl (by kernel_rfl) (by kernel_rfl) (by kernel_rfl) (fun _ _ _ h => h) (Or.inl ⟨by rfl, ?_⟩) (by assumption) ?_
      rotate_left
      · (intro wq hSw; (try dsimp only at hSw); go_simp; try with_reducible rfl)
      try simp only [Act.put, List.setIfInBounds_toArray, List.set_cons_zero, List.set_cons_succ]
      refine wpAnyH_take (i := 3) (oi := ⟨some 34, _, _, _, _, _⟩) (v := ?_) rfl (by kernel_rfl) (by kernel_rfl) (by kernel_rfl) (fun _ _ _ h => h) (Or.inl ⟨by rfl, ?_⟩) (by assumption) ?_
      rotate_left
      · (intro wq hSw; (try dsimp only at hSw); go_simp; try with_reducible rfl)
      try simp only [Act.put, List.setIfInBounds_toArray, List.set_cons_zero, List.set_cons_succ]
      refine wpAnyH_take (i := 4) (oi := ⟨some 35, _, _, _, _, _⟩) (v := ?_) rfl (by kernel_rfl) (by kernel_rfl) (by kernel_rfl) (fun _ _ _ h => h) (Or.inl ⟨by rfl, ?_⟩) (by assumption) ?_
      rotate_left
      · (intro wq hSw; (try dsimp only at hSw); have d := hSw.cells; go_simp; try with_reducible rfl)
      try simp only [Act.put, List.setIfInBounds_toArray, List.set_cons_zero, List.set_cons_succ]
      refine wpAnyH_take (i := 5) (oi := ⟨some 36, _, _, _, _, _⟩) (v := ?_) rfl (by kernel_rfl) (by kernel_rfl) (by kernel_rfl) (fun _ _ _ h => h) (Or.inl ⟨by rfl, ?_⟩) (by assumption) ?_
      rotate_left
      · (intro wq hSw; (try dsimp only at hSw); go_simp; try with_reducible rfl)
      try simp only [Act.put, List.setIfInBounds_toArray, List.set_cons_zero, List.set_cons_succ]
      refine wpAnyH_take (i := 6) (oi := ⟨some 37, _, _, _, _, _⟩) (v := ?_) rfl (by kernel_rfl) (by kernel_rfl) (by kernel_rfl) (fun _ _ _ h => h) (Or.inl ⟨by rfl, ?_⟩) (by assumption) ?_
      rotate_left
      · (intro wq hSw; (try dsimp only at hSw); have d := hSw.cells; go_simp; try with_reducible rfl)
      try simp only [Act.put, List.setIfInBounds_toArray, List.set_cons_zero, List.set_cons_succ]
      refine wpAnyH_take (i := 7) (oi := ⟨some 38, _, _, _, _, _⟩) (v := ?_) rfl (by kernel_rfl) (by kernel_rfl) (by kernel_rfl) (fun _ _ _ h => h) (Or.inl ⟨by rfl, ?_⟩) (by assumption) ?_
      rotate_left
      · (intro wq hSw; (try dsimp only at hSw); go_simp; try with_reducible rfl)
      try simp only [Act.put, List.setIfInBounds_toArray, List.set_cons_zero, List.set_cons_succ]
      refine wpAnyH_take (i := 8) (oi := ⟨some 39, _, _, _, _, _⟩) (v := ?_) rfl (by kernel_rfl) (by kernel_rfl) (by kernel_rfl) (fun _ _ _ h => h) (Or.inl ⟨by rfl, ?_⟩) (by assumption) ?_
      rotate_left
      · (intro wq hSw; (try dsimp only at hSw); have d := hSw.cells; go_simp; try with_reducible rfl)
      try simp only [Act.put, List.setIfInBounds_toArray, List.set_cons_zero, List.set_cons_succ]
      refine wpAnyH_ready (rs := [2]) (by kernel_rfl) (by simp) ?_
      refine AllReadyH.cons (o := ⟨some 33, _, _, _, _, _⟩) rfl (fun K hK => ?_) AllReadyH.nil
      go_simp
      refine (esc_any ch hch _).mono ?_; rintro e z4 ⟨rfl, y4⟩; have hb := h3.drew.keep y4
      refine hK.out _ _ (hHeld.keep y4) (fun hHeld => ?_)
      clear hK K
      try simp only [Act.put, List.setIfInBounds_toArray, List.set_cons_zero, List.set_cons_succ]
      refine wpAnyH_ready (rs := [9]) (by kernel_rfl) (by simp) ?_
      refine AllReadyH.cons (o := ⟨some 40, _, _, _, _, _⟩) rfl (fun K hK => ?_) AllReadyH.nil
      go_simp
      refine (send_any b mb ms n s (escL ch) c.fr c.den c.amt hv hn _ hb).mono ?_; rintro e z9 ⟨rfl, h9, k9⟩
      refine hK.out _ _ (hHeld.keepS k9 (hb.not_two hHeld)) (fun hHeld => ?_)
      clear hK K
      try simp only [Act.put, List.setIfInBounds_toArray, List.set_cons_zero, List.set_cons_succ]
      refine wpAnyH_take (i := 10) (oi := ⟨some 6, _, _, _, _, _⟩) (v := ?_) rfl (by kernel_rfl) (by kernel_rfl) (by kernel_rfl) (fun _ _ _ h => h) (Or.inl ⟨by rfl, ?_⟩) (by assumption) ?_
      rotate_left
      · (intro wq hSw; (try dsimp only at hSw); go_simp; try with_reducible rfl)
      try simp only [Act.put, List.setIfInBounds_toArray, List.set_cons_zero, List.set_cons_succ]
      refine wpAnyH_done (by kernel_rfl) ?_ _
      have K : Hid (Keeps (Two mb ms) w z9) := (((n3.drew.then y4 (fun _ h => h.elim)).mono (fun _ _ h => h.elim))).then k9 (fun _ h => .inl h)
      have H9 := Lib.hid h9
      clear d3 q3 h3 n3 k9 y4 hb h9 hHeld S5
      go_wp2_with fail
      go_ret
      exact ⟨by rw [HR.out]; rfl, by rw [HS.out]; exact H9.out, K.out⟩
    · have HR : Hid (backE s ch c = mintE s c.fr c.den c.amt) := by rw [Hid]; unfold backE; rw [if_pos hc, hh]; rfl
      have HS : Hid (backS s ch c = mintS s c.fr c.den c.amt) := by rw [Hid]; unfold backS; rw [if_pos hc, hh]; rfl
      rw [hh] at HM
      clear hc hh
      go_enter Try.func30, Try.ntmps30
      go_wp2_with fail
      generalize World.alloc w _ = W at *
      generalize w.heap.size = q at *
      have d := q1.cells
      refine (CK _).mono ?_
      rintro e w2 ⟨rfl, k2⟩
      have n2 := n1.then k2 (fun _ h => h.elim)
      have q2 := q1.keep k2
      have h2 := h1.keep k2
      clear n1 q1 h1 d CK k2 h
      have d2 := q2.cells
      go_wp2_with fail
      refine (HM _).mono ?_
      rintro e w3 ⟨rfl, k3⟩
      have n3 := n2.then k3 (fun _ h => h.elim)
      have q3 := q2.keep k3
      have h3 := h2.keep k3
      clear n2 q2 h2 d2 HM k3
      have d3 := q3.cells
      go_wp2_with fail
      refine (mint_any b mb ms n s c.fr c.den c.amt hv hn _ h3).mono ?_
      rintro e w4 ⟨rfl, h4, k4⟩
      have K : Hid (Keeps (Two mb ms) w w4) := (n3.mono (fun _ _ h => h.elim)).then k4 (fun _ h => .inl h)
      clear d3 q3 h3 n3 k4
      go_wp2_with fail
      go_ret
      exact ⟨by rw [HR.out]; rfl, by rw [HS.out]; exact h4, K.out⟩
  · have HR : Hid (backE s ch c = chkC c) := by rw [Hid]; unfold backE; rw [if_neg hc]
    have HS : Hid (backS s ch c = s) := by rw [Hid]; unfold backS; rw [if_neg hc]
    have e1 : (chkC c != 0) = true := by simpa using hc
    have e0 : (chkC c == 0) = false := by simpa using hc
    clear hc
    generalize chkC c = cc at *
    go_enter Try.func30, Try.ntmps30
    go_wp2_with fail
    generalize World.alloc w _ = W at *
    generalize w.heap.size = q at *
    have d := q1.cells
    refine (CK _).mono ?_
    rintro e w2 ⟨rfl, k2⟩
    have n2 := n1.then k2 (fun _ h => h.elim)
    have q2 := q1.keep k2
    have h2 := h1.keep k2
    clear n1 q1 h1 d CK k2 h
    have K : Hid (Keeps (Two mb ms) w w2) := n2.mono (fun _ _ h => h.elim)
    go_wp2_with fail
    go_ret
    exact ⟨by rw [HR.out]; rfl, by rw [HS.out]; exact h2.mono (by omega), K.out⟩
end Go.Proofs.Ytcldbipipehedaa
