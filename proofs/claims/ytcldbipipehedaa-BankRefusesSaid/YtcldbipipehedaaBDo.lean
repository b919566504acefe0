/-
  voussoirlaw10.Does.
-/
import Derived.Test.YtcldbipipehedaaPkB
import Derived.Test.YtcldbipipehedaaTr2
namespace Go.Proofs.Ytcldbipipehedaa
open Go.RowKit Go.ChangeMaps
def dsE (s : BkS) (x : A10) : Int :=
  if pk x.what 6 ≤ 1 then mintE s (acL (pk x.fr 5)) (dbL (pk x.den 4)) x.n else if pk x.what 6 = 2 then burnE s (acL (pk x.fr 5)) (dbL (pk x.den 4)) x.n else sendE s (acL (pk x.fr 5)) (acL (pk x.to 5)) (dbL (pk x.den 4)) x.n
def dsS (s : BkS) (x : A10) : BkS :=
  if pk x.what 6 ≤ 1 then mintS s (acL (pk x.fr 5)) (dbL (pk x.den 4)) x.n else if pk x.what 6 = 2 then burnS s (acL (pk x.fr 5)) (dbL (pk x.den 4)) x.n else sendS s (acL (pk x.fr 5)) (acL (pk x.to 5)) (dbL (pk x.den 4)) x.n
/-- an act, laid -/
def aB (w : World) (q : Nat) (x : A10) : Prop := w.heap[q]? = some (.cells #[.int .i64 x.what, .int .i64 x.fr, .int .i64 x.to, .int .i64 x.den, .int .u64 (x.n : Nat)] 69 (0, 0))
theorem aB.cells {w : World} {q : Nat} {x : A10} (h : aB w q x) : w.cell? ⟨q, 0, none⟩ = some (.int .i64 x.what) ∧ w.cell? ⟨q, 1, none⟩ = some (.int .i64 x.fr) ∧ w.cell? ⟨q, 2, none⟩ = some (.int .i64 x.to) ∧ w.cell? ⟨q, 3, none⟩ = some (.int .i64 x.den) ∧ w.cell? ⟨q, 4, none⟩ = some (.int .u64 (x.n : Nat)) := by
  refine ⟨?_, ?_, ?_, ?_, ?_⟩ <;> (rw [cell_blk h]; rfl)
theorem aB.keepS {w w' : World} {S : Nat → Prop} {q : Nat} {x : A10} (h : aB w q x) (k : Keeps S w w') (hq : ¬ S q) : aB w' q x := k.kept h hq
theorem aB.keep {w w' : World} {q : Nat} {x : A10} (h : aB w q x) (k : New w w') : aB w' q x := k.kept h (fun h => h)
theorem aB.drew {w : World} {q : Nat} {x : A10} (h : aB w q x) : aB w.drew q x := h
/-- an act that may be -/
def okA (x : A10) : Prop := I64 x.what ∧ I64 x.fr ∧ I64 x.to ∧ I64 x.den ∧ U64 x.n
set_option maxHeartbeats 8000000 in
set_option maxRecDepth 100000 in
theorem does_any (b mb ms n : Nat) (s : BkS) (x : A10) (hx : okA x) (hn : n ≤ 1000000) (w : World) (h : Bk w b mb ms n s) :
    Calls Try.prog 50 #[.pointer (some ⟨b, 0, none⟩), .agg #[.int .i64 x.what, .int .i64 x.fr, .int .i64 x.to, .int .i64 x.den, .int .u64 (x.n : Nat)]] w fun e w' => e = .returned (.int .i64 (dsE s x)) ∧ Bk w' b mb ms (n + 2) (dsS s x) ∧ Keeps (Two mb ms) w w' := by
  obtain ⟨i0, i1, i2, i3, i4⟩ := hx
  have n1 : New w (w.alloc (.cells #[.int .i64 x.what, .int .i64 x.fr, .int .i64 x.to, .int .i64 x.den, .int .u64 (x.n : Nat)] 69)) := (New.refl w).alloc _
  have a1 : aB (w.alloc (.cells #[.int .i64 x.what, .int .i64 x.fr, .int .i64 x.to, .int .i64 x.den, .int .u64 (x.n : Nat)] 69)) w.heap.size x := heap_alloc_new w _
  have h1 := h.keep n1
  have P1 := fun w => pickB_any x.what 6 w i0 (by omega) (by omega)
  have hk := pk_lt x.what 6 (by omega)
  have C1 := fun w => account_any x.fr i1 w
  have C2 := fun w => account_any x.to i2 w
  have C3 := fun w => denomB_any x.den i3 w
  have HE : Hid (dsE s x = if pk x.what 6 ≤ 1 then mintE s (acL (pk x.fr 5)) (dbL (pk x.den 4)) x.n else if pk x.what 6 = 2 then burnE s (acL (pk x.fr 5)) (dbL (pk x.den 4)) x.n else sendE s (acL (pk x.fr 5)) (acL (pk x.to 5)) (dbL (pk x.den 4)) x.n) := rfl
  have HS : Hid (dsS s x = if pk x.what 6 ≤ 1 then mintS s (acL (pk x.fr 5)) (dbL (pk x.den 4)) x.n else if pk x.what 6 = 2 then burnS s (acL (pk x.fr 5)) (dbL (pk x.den 4)) x.n else sendS s (acL (pk x.fr 5)) (acL (pk x.to 5)) (dbL (pk x.den 4)) x.n) := rfl
  generalize acL (pk x.fr 5) = fr at *
  generalize acL (pk x.to 5) = to at *
  generalize dbL (pk x.den 4) = d at *
  generalize dsE s x = E at *
  generalize dsS s x = T at *
  generalize pk x.what 6 = k at *
  have M := fun w h => mint_any b mb ms n s fr d x.n i4 hn w h
  have U := fun w h => burn_any b mb ms n s fr d x.n i4 hn w h
  have V := fun w h => send_any b mb ms n s fr to d x.n i4 hn w h
  have key : ∀ (E' : Int) (T' : BkS), Hid (E = E') → Hid (T = T') → True := fun _ _ _ _ => trivial
  clear h key
  rcases (by omega : k = 0 ∨ k = 1 ∨ k = 2 ∨ 3 ≤ k) with rfl | rfl | rfl | h3
  case' inl =>
    have HE2 : Hid (E = mintE s fr d x.n) := by rw [Hid, HE.out, if_pos (by omega)]
    have HS2 : Hid (T = mintS s fr d x.n) := by rw [Hid, HS.out, if_pos (by omega)]
  case' inr.inl =>
    have HE2 : Hid (E = mintE s fr d x.n) := by rw [Hid, HE.out, if_pos (by omega)]
    have HS2 : Hid (T = mintS s fr d x.n) := by rw [Hid, HS.out, if_pos (by omega)]
  case' inr.inr.inl =>
    have HE2 : Hid (E = burnE s fr d x.n) := by rw [Hid, HE.out, if_neg (by omega), if_pos rfl]
    have HS2 : Hid (T = burnS s fr d x.n) := by rw [Hid, HS.out, if_neg (by omega), if_pos rfl]
  case' inr.inr.inr =>
    have HE2 : Hid (E = sendE s fr to d x.n) := by rw [Hid, HE.out, if_neg (by omega), if_neg (by omega)]
    have HS2 : Hid (T = sendS s fr to d x.n) := by rw [Hid, HS.out, if_neg (by omega), if_neg (by omega)]
    have g0 : ((k : Int) == 0) = false := by simp; omega
    have g1 : ((k : Int) == 1) = false := by simp; omega
    have g2 : ((k : Int) == 2) = false := by simp; omega
  all_goals
    clear HE HS
    go_enter Try.func50, Try.ntmps50
    go_upto_region 1 with (fail)
    revert n1 a1 h1
    generalize (w.alloc (.cells #[.int .i64 x.what, .int .i64 x.fr, .int .i64 x.to, .int .i64 x.den, .int .u64 (x.n : Nat)] 69)) = W
    generalize w.heap.size = q
    intro n1 a1 h1
    have d0 := a1.cells
    go_wp2_with fail
    refine (P1 _).mono ?_
    rintro e w1 ⟨rfl, rfl⟩
    have S5 := a1.drew
    have h5 := h1.drew
    have n5 := n1.drew
    clear a1 h1 n1 P1 d0
    go_wp2_with fail
  ·
    refine wp_region_held_drew (S := (fun w' => aB w' q x)) (by kernel_rfl) ?_ (fun hHeld => ?_)
    · exact S5
    refine wpAnyH_take (i := 0) (oi := ⟨some 33, _, _, _, _, _⟩) (v := ?_) rfl (by kernel_rfl) (by kernel_rfl) (by kernel_rfl) (fun _ _ _ h => h) (Or.inl ⟨by rfl, ?_⟩) (by assumption) ?_
    rotate_left
    · (intro wq hSw; (try dsimp only at hSw); go_simp; try with_reducible rfl)
    try simp only [Act.put, List.setIfInBounds_toArray, List.set_cons_zero, List.set_cons_succ]
    refine wpAnyH_take (i := 1) (oi := ⟨some 34, _, _, _, _, _⟩) (v := ?_) rfl (by kernel_rfl) (by kernel_rfl) (by kernel_rfl) (fun _ _ _ h => h) (Or.inl ⟨by rfl, ?_⟩) (by assumption) ?_
    rotate_left
    · (intro wq hSw; (try dsimp only at hSw); go_simp; try with_reducible rfl)
    try simp only [Act.put, List.setIfInBounds_toArray, List.set_cons_zero, List.set_cons_succ]
    refine wpAnyH_take (i := 2) (oi := ⟨some 35, _, _, _, _, _⟩) (v := ?_) rfl (by kernel_rfl) (by kernel_rfl) (by kernel_rfl) (fun _ _ _ h => h) (Or.inl ⟨by rfl, ?_⟩) (by assumption) ?_
    rotate_left
    · (intro wq hSw; (try dsimp only at hSw); have d := hSw.cells; go_simp; try with_reducible rfl)
    try simp only [Act.put, List.setIfInBounds_toArray, List.set_cons_zero, List.set_cons_succ]
    refine wpAnyH_take (i := 4) (oi := ⟨some 37, _, _, _, _, _⟩) (v := ?_) rfl (by kernel_rfl) (by kernel_rfl) (by kernel_rfl) (fun _ _ _ h => h) (Or.inl ⟨by rfl, ?_⟩) (by assumption) ?_
    rotate_left
    · (intro wq hSw; (try dsimp only at hSw); go_simp; try with_reducible rfl)
    try simp only [Act.put, List.setIfInBounds_toArray, List.set_cons_zero, List.set_cons_succ]
    refine wpAnyH_take (i := 5) (oi := ⟨some 38, _, _, _, _, _⟩) (v := ?_) rfl (by kernel_rfl) (by kernel_rfl) (by kernel_rfl) (fun _ _ _ h => h) (Or.inl ⟨by rfl, ?_⟩) (by assumption) ?_
    rotate_left
    · (intro wq hSw; (try dsimp only at hSw); have d := hSw.cells; go_simp; try with_reducible rfl)
    try simp only [Act.put, List.setIfInBounds_toArray, List.set_cons_zero, List.set_cons_succ]
    refine wpAnyH_take (i := 7) (oi := ⟨some 40, _, _, _, _, _⟩) (v := ?_) rfl (by kernel_rfl) (by kernel_rfl) (by kernel_rfl) (fun _ _ _ h => h) (Or.inl ⟨by rfl, ?_⟩) (by assumption) ?_
    rotate_left
    · (intro wq hSw; (try dsimp only at hSw); go_simp; try with_reducible rfl)
    try simp only [Act.put, List.setIfInBounds_toArray, List.set_cons_zero, List.set_cons_succ]
    refine wpAnyH_take (i := 8) (oi := ⟨some 41, _, _, _, _, _⟩) (v := ?_) rfl (by kernel_rfl) (by kernel_rfl) (by kernel_rfl) (fun _ _ _ h => h) (Or.inl ⟨by rfl, ?_⟩) (by assumption) ?_
    rotate_left
    · (intro wq hSw; (try dsimp only at hSw); have d := hSw.cells; go_simp; try with_reducible rfl)
    try simp only [Act.put, List.setIfInBounds_toArray, List.set_cons_zero, List.set_cons_succ]
    refine wpAnyH_take (i := 10) (oi := ⟨some 43, _, _, _, _, _⟩) (v := ?_) rfl (by kernel_rfl) (by kernel_rfl) (by kernel_rfl) (fun _ _ _ h => h) (Or.inl ⟨by rfl, ?_⟩) (by assumption) ?_
    rotate_left
    · (intro wq hSw; (try dsimp only at hSw); go_simp; try with_reducible rfl)
    try simp only [Act.put, List.setIfInBounds_toArray, List.set_cons_zero, List.set_cons_succ]
    refine wpAnyH_take (i := 11) (oi := ⟨some 44, _, _, _, _, _⟩) (v := ?_) rfl (by kernel_rfl) (by kernel_rfl) (by kernel_rfl) (fun _ _ _ h => h) (Or.inl ⟨by rfl, ?_⟩) (by assumption) ?_
    rotate_left
    · (intro wq hSw; (try dsimp only at hSw); have d := hSw.cells; go_simp; try with_reducible rfl)
    try simp only [Act.put, List.setIfInBounds_toArray, List.set_cons_zero, List.set_cons_succ]
    refine wpAnyH_ready (rs := [3]) (by kernel_rfl) (by simp) ?_
    refine AllReadyH.cons (o := ⟨some 36, _, _, _, _, _⟩) rfl (fun K hK => ?_) AllReadyH.nil
    go_simp
    refine (C1 _).mono ?_; rintro e z3 ⟨rfl, y3⟩; have h6 := h5.keep y3; have n6 := n5.then y3 (fun _ h => h.elim)
    refine hK.out _ _ (hHeld.keep y3) (fun hHeld => ?_)
    clear hK K
    try simp only [Act.put, List.setIfInBounds_toArray, List.set_cons_zero, List.set_cons_succ]
    refine wpAnyH_ready (rs := [6]) (by kernel_rfl) (by simp) ?_
    refine AllReadyH.cons (o := ⟨some 39, _, _, _, _, _⟩) rfl (fun K hK => ?_) AllReadyH.nil
    go_simp
    refine (C2 _).mono ?_; rintro e z6 ⟨rfl, y6⟩; have h7 := h6.keep y6; have n7 := n6.then y6 (fun _ h => h.elim)
    refine hK.out _ _ (hHeld.keep y6) (fun hHeld => ?_)
    clear hK K
    try simp only [Act.put, List.setIfInBounds_toArray, List.set_cons_zero, List.set_cons_succ]
    refine wpAnyH_ready (rs := [9]) (by kernel_rfl) (by simp) ?_
    refine AllReadyH.cons (o := ⟨some 42, _, _, _, _, _⟩) rfl (fun K hK => ?_) AllReadyH.nil
    go_simp
    refine (C3 _).mono ?_; rintro e z9 ⟨rfl, y9⟩; have h8 := h7.keep y9; have n8 := n7.then y9 (fun _ h => h.elim)
    refine hK.out _ _ (hHeld.keep y9) (fun hHeld => ?_)
    clear hK K
    try simp only [Act.put, List.setIfInBounds_toArray, List.set_cons_zero, List.set_cons_succ]
    refine wpAnyH_ready (rs := [12]) (by kernel_rfl) (by simp) ?_
    refine AllReadyH.cons (o := ⟨some 45, _, _, _, _, _⟩) rfl (fun K hK => ?_) AllReadyH.nil
    go_simp
    refine (V _ h8).mono ?_; rintro e z12 ⟨rfl, h12, k12⟩
    refine hK.out _ _ (hHeld.keepS k12 (h8.not_two hHeld)) (fun hHeld => ?_)
    clear hK K
    try simp only [Act.put, List.setIfInBounds_toArray, List.set_cons_zero, List.set_cons_succ]
    refine wpAnyH_take (i := 13) (oi := ⟨some 4, _, _, _, _, _⟩) (v := ?_) rfl (by kernel_rfl) (by kernel_rfl) (by kernel_rfl) (fun _ _ _ h => h) (Or.inl ⟨by rfl, ?_⟩) (by assumption) ?_
    rotate_left
    · (intro wq hSw; (try dsimp only at hSw); go_simp; try with_reducible rfl)
    try simp only [Act.put, List.setIfInBounds_toArray, List.set_cons_zero, List.set_cons_succ]
    refine wpAnyH_done (by kernel_rfl) ?_ _
    have K : Hid (Keeps (Two mb ms) w z12) := (n8.mono (fun _ _ h => h.elim)).then k12 (fun _ h => .inl h)
    have H9 := Lib.hid h12
    clear k12 h12 hHeld S5 h7 h6 h5 n5 n6 n7 h8 n8
    go_wp2_with fail
    go_ret
    exact ⟨by rw [HE2.out]; rfl, by rw [HS2.out]; exact H9.out, K.out⟩
  ·
    refine wp_region_held_drew (S := (fun w' => aB w' q x)) (by kernel_rfl) ?_ (fun hHeld => ?_)
    · exact S5
    refine wpAnyH_take (i := 0) (oi := ⟨some 23, _, _, _, _, _⟩) (v := ?_) rfl (by kernel_rfl) (by kernel_rfl) (by kernel_rfl) (fun _ _ _ h => h) (Or.inl ⟨by rfl, ?_⟩) (by assumption) ?_
    rotate_left
    · (intro wq hSw; (try dsimp only at hSw); go_simp; try with_reducible rfl)
    try simp only [Act.put, List.setIfInBounds_toArray, List.set_cons_zero, List.set_cons_succ]
    refine wpAnyH_take (i := 1) (oi := ⟨some 24, _, _, _, _, _⟩) (v := ?_) rfl (by kernel_rfl) (by kernel_rfl) (by kernel_rfl) (fun _ _ _ h => h) (Or.inl ⟨by rfl, ?_⟩) (by assumption) ?_
    rotate_left
    · (intro wq hSw; (try dsimp only at hSw); go_simp; try with_reducible rfl)
    try simp only [Act.put, List.setIfInBounds_toArray, List.set_cons_zero, List.set_cons_succ]
    refine wpAnyH_take (i := 2) (oi := ⟨some 25, _, _, _, _, _⟩) (v := ?_) rfl (by kernel_rfl) (by kernel_rfl) (by kernel_rfl) (fun _ _ _ h => h) (Or.inl ⟨by rfl, ?_⟩) (by assumption) ?_
    rotate_left
    · (intro wq hSw; (try dsimp only at hSw); have d := hSw.cells; go_simp; try with_reducible rfl)
    try simp only [Act.put, List.setIfInBounds_toArray, List.set_cons_zero, List.set_cons_succ]
    refine wpAnyH_take (i := 4) (oi := ⟨some 27, _, _, _, _, _⟩) (v := ?_) rfl (by kernel_rfl) (by kernel_rfl) (by kernel_rfl) (fun _ _ _ h => h) (Or.inl ⟨by rfl, ?_⟩) (by assumption) ?_
    rotate_left
    · (intro wq hSw; (try dsimp only at hSw); go_simp; try with_reducible rfl)
    try simp only [Act.put, List.setIfInBounds_toArray, List.set_cons_zero, List.set_cons_succ]
    refine wpAnyH_take (i := 5) (oi := ⟨some 28, _, _, _, _, _⟩) (v := ?_) rfl (by kernel_rfl) (by kernel_rfl) (by kernel_rfl) (fun _ _ _ h => h) (Or.inl ⟨by rfl, ?_⟩) (by assumption) ?_
    rotate_left
    · (intro wq hSw; (try dsimp only at hSw); have d := hSw.cells; go_simp; try with_reducible rfl)
    try simp only [Act.put, List.setIfInBounds_toArray, List.set_cons_zero, List.set_cons_succ]
    refine wpAnyH_take (i := 7) (oi := ⟨some 30, _, _, _, _, _⟩) (v := ?_) rfl (by kernel_rfl) (by kernel_rfl) (by kernel_rfl) (fun _ _ _ h => h) (Or.inl ⟨by rfl, ?_⟩) (by assumption) ?_
    rotate_left
    · (intro wq hSw; (try dsimp only at hSw); go_simp; try with_reducible rfl)
    try simp only [Act.put, List.setIfInBounds_toArray, List.set_cons_zero, List.set_cons_succ]
    refine wpAnyH_take (i := 8) (oi := ⟨some 31, _, _, _, _, _⟩) (v := ?_) rfl (by kernel_rfl) (by kernel_rfl) (by kernel_rfl) (fun _ _ _ h => h) (Or.inl ⟨by rfl, ?_⟩) (by assumption) ?_
    rotate_left
    · (intro wq hSw; (try dsimp only at hSw); have d := hSw.cells; go_simp; try with_reducible rfl)
    try simp only [Act.put, List.setIfInBounds_toArray, List.set_cons_zero, List.set_cons_succ]
    refine wpAnyH_ready (rs := [3]) (by kernel_rfl) (by simp) ?_
    refine AllReadyH.cons (o := ⟨some 26, _, _, _, _, _⟩) rfl (fun K hK => ?_) AllReadyH.nil
    go_simp
    refine (C1 _).mono ?_; rintro e z3 ⟨rfl, y3⟩; have h6 := h5.keep y3; have n6 := n5.then y3 (fun _ h => h.elim)
    refine hK.out _ _ (hHeld.keep y3) (fun hHeld => ?_)
    clear hK K
    try simp only [Act.put, List.setIfInBounds_toArray, List.set_cons_zero, List.set_cons_succ]
    refine wpAnyH_ready (rs := [6]) (by kernel_rfl) (by simp) ?_
    refine AllReadyH.cons (o := ⟨some 29, _, _, _, _, _⟩) rfl (fun K hK => ?_) AllReadyH.nil
    go_simp
    refine (C3 _).mono ?_; rintro e z6 ⟨rfl, y6⟩; have h7 := h6.keep y6; have n7 := n6.then y6 (fun _ h => h.elim)
    refine hK.out _ _ (hHeld.keep y6) (fun hHeld => ?_)
    clear hK K
    try simp only [Act.put, List.setIfInBounds_toArray, List.set_cons_zero, List.set_cons_succ]
    refine wpAnyH_ready (rs := [9]) (by kernel_rfl) (by simp) ?_
    refine AllReadyH.cons (o := ⟨some 32, _, _, _, _, _⟩) rfl (fun K hK => ?_) AllReadyH.nil
    go_simp
    refine (U _ h7).mono ?_; rintro e z9 ⟨rfl, h9, k9⟩
    refine hK.out _ _ (hHeld.keepS k9 (h7.not_two hHeld)) (fun hHeld => ?_)
    clear hK K
    try simp only [Act.put, List.setIfInBounds_toArray, List.set_cons_zero, List.set_cons_succ]
    refine wpAnyH_take (i := 10) (oi := ⟨some 4, _, _, _, _, _⟩) (v := ?_) rfl (by kernel_rfl) (by kernel_rfl) (by kernel_rfl) (fun _ _ _ h => h) (Or.inl ⟨by rfl, ?_⟩) (by assumption) ?_
    rotate_left
    · (intro wq hSw; (try dsimp only at hSw); go_simp; try with_reducible rfl)
    try simp only [Act.put, List.setIfInBounds_toArray, List.set_cons_zero, List.set_cons_succ]
    refine wpAnyH_done (by kernel_rfl) ?_ _
    have K : Hid (Keeps (Two mb ms) w z9) := (n7.mono (fun _ _ h => h.elim)).then k9 (fun _ h => .inl h)
    have H9 := Lib.hid h9
    clear k9 h9 hHeld S5 h7 h6 h5 n5 n6 n7
    go_wp2_with fail
    go_ret
    exact ⟨by rw [HE2.out]; rfl, by rw [HS2.out]; exact H9.out, K.out⟩
  ·
    refine wp_region_held_drew (S := (fun w' => aB w' q x)) (by kernel_rfl) ?_ (fun hHeld => ?_)
    · exact S5
    refine wpAnyH_take (i := 0) (oi := ⟨some 11, _, _, _, _, _⟩) (v := ?_) rfl (by kernel_rfl) (by kernel_rfl) (by kernel_rfl) (fun _ _ _ h => h) (Or.inl ⟨by rfl, ?_⟩) (by assumption) ?_
    rotate_left
    · (intro wq hSw; (try dsimp only at hSw); go_simp; try with_reducible rfl)
    try simp only [Act.put, List.setIfInBounds_toArray, List.set_cons_zero, List.set_cons_succ]
    refine wpAnyH_take (i := 1) (oi := ⟨some 12, _, _, _, _, _⟩) (v := ?_) rfl (by kernel_rfl) (by kernel_rfl) (by kernel_rfl) (fun _ _ _ h => h) (Or.inl ⟨by rfl, ?_⟩) (by assumption) ?_
    rotate_left
    · (intro wq hSw; (try dsimp only at hSw); go_simp; try with_reducible rfl)
    try simp only [Act.put, List.setIfInBounds_toArray, List.set_cons_zero, List.set_cons_succ]
    refine wpAnyH_take (i := 2) (oi := ⟨some 13, _, _, _, _, _⟩) (v := ?_) rfl (by kernel_rfl) (by kernel_rfl) (by kernel_rfl) (fun _ _ _ h => h) (Or.inl ⟨by rfl, ?_⟩) (by assumption) ?_
    rotate_left
    · (intro wq hSw; (try dsimp only at hSw); have d := hSw.cells; go_simp; try with_reducible rfl)
    try simp only [Act.put, List.setIfInBounds_toArray, List.set_cons_zero, List.set_cons_succ]
    refine wpAnyH_take (i := 4) (oi := ⟨some 15, _, _, _, _, _⟩) (v := ?_) rfl (by kernel_rfl) (by kernel_rfl) (by kernel_rfl) (fun _ _ _ h => h) (Or.inl ⟨by rfl, ?_⟩) (by assumption) ?_
    rotate_left
    · (intro wq hSw; (try dsimp only at hSw); go_simp; try with_reducible rfl)
    try simp only [Act.put, List.setIfInBounds_toArray, List.set_cons_zero, List.set_cons_succ]
    refine wpAnyH_take (i := 5) (oi := ⟨some 16, _, _, _, _, _⟩) (v := ?_) rfl (by kernel_rfl) (by kernel_rfl) (by kernel_rfl) (fun _ _ _ h => h) (Or.inl ⟨by rfl, ?_⟩) (by assumption) ?_
    rotate_left
    · (intro wq hSw; (try dsimp only at hSw); have d := hSw.cells; go_simp; try with_reducible rfl)
    try simp only [Act.put, List.setIfInBounds_toArray, List.set_cons_zero, List.set_cons_succ]
    refine wpAnyH_take (i := 7) (oi := ⟨some 18, _, _, _, _, _⟩) (v := ?_) rfl (by kernel_rfl) (by kernel_rfl) (by kernel_rfl) (fun _ _ _ h => h) (Or.inl ⟨by rfl, ?_⟩) (by assumption) ?_
    rotate_left
    · (intro wq hSw; (try dsimp only at hSw); go_simp; try with_reducible rfl)
    try simp only [Act.put, List.setIfInBounds_toArray, List.set_cons_zero, List.set_cons_succ]
    refine wpAnyH_take (i := 8) (oi := ⟨some 19, _, _, _, _, _⟩) (v := ?_) rfl (by kernel_rfl) (by kernel_rfl) (by kernel_rfl) (fun _ _ _ h => h) (Or.inl ⟨by rfl, ?_⟩) (by assumption) ?_
    rotate_left
    · (intro wq hSw; (try dsimp only at hSw); have d := hSw.cells; go_simp; try with_reducible rfl)
    try simp only [Act.put, List.setIfInBounds_toArray, List.set_cons_zero, List.set_cons_succ]
    refine wpAnyH_ready (rs := [3]) (by kernel_rfl) (by simp) ?_
    refine AllReadyH.cons (o := ⟨some 14, _, _, _, _, _⟩) rfl (fun K hK => ?_) AllReadyH.nil
    go_simp
    refine (C1 _).mono ?_; rintro e z3 ⟨rfl, y3⟩; have h6 := h5.keep y3; have n6 := n5.then y3 (fun _ h => h.elim)
    refine hK.out _ _ (hHeld.keep y3) (fun hHeld => ?_)
    clear hK K
    try simp only [Act.put, List.setIfInBounds_toArray, List.set_cons_zero, List.set_cons_succ]
    refine wpAnyH_ready (rs := [6]) (by kernel_rfl) (by simp) ?_
    refine AllReadyH.cons (o := ⟨some 17, _, _, _, _, _⟩) rfl (fun K hK => ?_) AllReadyH.nil
    go_simp
    refine (C3 _).mono ?_; rintro e z6 ⟨rfl, y6⟩; have h7 := h6.keep y6; have n7 := n6.then y6 (fun _ h => h.elim)
    refine hK.out _ _ (hHeld.keep y6) (fun hHeld => ?_)
    clear hK K
    try simp only [Act.put, List.setIfInBounds_toArray, List.set_cons_zero, List.set_cons_succ]
    refine wpAnyH_ready (rs := [9]) (by kernel_rfl) (by simp) ?_
    refine AllReadyH.cons (o := ⟨some 20, _, _, _, _, _⟩) rfl (fun K hK => ?_) AllReadyH.nil
    go_simp
    refine (M _ h7).mono ?_; rintro e z9 ⟨rfl, h9, k9⟩
    refine hK.out _ _ (hHeld.keepS k9 (h7.not_two hHeld)) (fun hHeld => ?_)
    clear hK K
    try simp only [Act.put, List.setIfInBounds_toArray, List.set_cons_zero, List.set_cons_succ]
    refine wpAnyH_take (i := 10) (oi := ⟨some 4, _, _, _, _, _⟩) (v := ?_) rfl (by kernel_rfl) (by kernel_rfl) (by kernel_rfl) (fun _ _ _ h => h) (Or.inl ⟨by rfl, ?_⟩) (by assumption) ?_
    rotate_left
    · (intro wq hSw; (try dsimp only at hSw); go_simp; try with_reducible rfl)
    try simp only [Act.put, List.setIfInBounds_toArray, List.set_cons_zero, List.set_cons_succ]
    refine wpAnyH_done (by kernel_rfl) ?_ _
    have K : Hid (Keeps (Two mb ms) w z9) := (n7.mono (fun _ _ h => h.elim)).then k9 (fun _ h => .inl h)
    have H9 := Lib.hid h9
    clear k9 h9 hHeld S5 h7 h6 h5 n5 n6 n7
    go_wp2_with fail
    go_ret
    exact ⟨by rw [HE2.out]; rfl, by rw [HS2.out]; exact H9.out, K.out⟩
  ·
    refine wp_region_held_drew (S := (fun w' => aB w' q x)) (by kernel_rfl) ?_ (fun hHeld => ?_)
    · exact S5
    refine wpAnyH_take (i := 0) (oi := ⟨some 11, _, _, _, _, _⟩) (v := ?_) rfl (by kernel_rfl) (by kernel_rfl) (by kernel_rfl) (fun _ _ _ h => h) (Or.inl ⟨by rfl, ?_⟩) (by assumption) ?_
    rotate_left
    · (intro wq hSw; (try dsimp only at hSw); go_simp; try with_reducible rfl)
    try simp only [Act.put, List.setIfInBounds_toArray, List.set_cons_zero, List.set_cons_succ]
    refine wpAnyH_take (i := 1) (oi := ⟨some 12, _, _, _, _, _⟩) (v := ?_) rfl (by kernel_rfl) (by kernel_rfl) (by kernel_rfl) (fun _ _ _ h => h) (Or.inl ⟨by rfl, ?_⟩) (by assumption) ?_
    rotate_left
    · (intro wq hSw; (try dsimp only at hSw); go_simp; try with_reducible rfl)
    try simp only [Act.put, List.setIfInBounds_toArray, List.set_cons_zero, List.set_cons_succ]
    refine wpAnyH_take (i := 2) (oi := ⟨some 13, _, _, _, _, _⟩) (v := ?_) rfl (by kernel_rfl) (by kernel_rfl) (by kernel_rfl) (fun _ _ _ h => h) (Or.inl ⟨by rfl, ?_⟩) (by assumption) ?_
    rotate_left
    · (intro wq hSw; (try dsimp only at hSw); have d := hSw.cells; go_simp; try with_reducible rfl)
    try simp only [Act.put, List.setIfInBounds_toArray, List.set_cons_zero, List.set_cons_succ]
    refine wpAnyH_take (i := 4) (oi := ⟨some 15, _, _, _, _, _⟩) (v := ?_) rfl (by kernel_rfl) (by kernel_rfl) (by kernel_rfl) (fun _ _ _ h => h) (Or.inl ⟨by rfl, ?_⟩) (by assumption) ?_
    rotate_left
    · (intro wq hSw; (try dsimp only at hSw); go_simp; try with_reducible rfl)
    try simp only [Act.put, List.setIfInBounds_toArray, List.set_cons_zero, List.set_cons_succ]
    refine wpAnyH_take (i := 5) (oi := ⟨some 16, _, _, _, _, _⟩) (v := ?_) rfl (by kernel_rfl) (by kernel_rfl) (by kernel_rfl) (fun _ _ _ h => h) (Or.inl ⟨by rfl, ?_⟩) (by assumption) ?_
    rotate_left
    · (intro wq hSw; (try dsimp only at hSw); have d := hSw.cells; go_simp; try with_reducible rfl)
    try simp only [Act.put, List.setIfInBounds_toArray, List.set_cons_zero, List.set_cons_succ]
    refine wpAnyH_take (i := 7) (oi := ⟨some 18, _, _, _, _, _⟩) (v := ?_) rfl (by kernel_rfl) (by kernel_rfl) (by kernel_rfl) (fun _ _ _ h => h) (Or.inl ⟨by rfl, ?_⟩) (by assumption) ?_
    rotate_left
    · (intro wq hSw; (try dsimp only at hSw); go_simp; try with_reducible rfl)
    try simp only [Act.put, List.setIfInBounds_toArray, List.set_cons_zero, List.set_cons_succ]
    refine wpAnyH_take (i := 8) (oi := ⟨some 19, _, _, _, _, _⟩) (v := ?_) rfl (by kernel_rfl) (by kernel_rfl) (by kernel_rfl) (fun _ _ _ h => h) (Or.inl ⟨by rfl, ?_⟩) (by assumption) ?_
    rotate_left
    · (intro wq hSw; (try dsimp only at hSw); have d := hSw.cells; go_simp; try with_reducible rfl)
    try simp only [Act.put, List.setIfInBounds_toArray, List.set_cons_zero, List.set_cons_succ]
    refine wpAnyH_ready (rs := [3]) (by kernel_rfl) (by simp) ?_
    refine AllReadyH.cons (o := ⟨some 14, _, _, _, _, _⟩) rfl (fun K hK => ?_) AllReadyH.nil
    go_simp
    refine (C1 _).mono ?_; rintro e z3 ⟨rfl, y3⟩; have h6 := h5.keep y3; have n6 := n5.then y3 (fun _ h => h.elim)
    refine hK.out _ _ (hHeld.keep y3) (fun hHeld => ?_)
    clear hK K
    try simp only [Act.put, List.setIfInBounds_toArray, List.set_cons_zero, List.set_cons_succ]
    refine wpAnyH_ready (rs := [6]) (by kernel_rfl) (by simp) ?_
    refine AllReadyH.cons (o := ⟨some 17, _, _, _, _, _⟩) rfl (fun K hK => ?_) AllReadyH.nil
    go_simp
    refine (C3 _).mono ?_; rintro e z6 ⟨rfl, y6⟩; have h7 := h6.keep y6; have n7 := n6.then y6 (fun _ h => h.elim)
    refine hK.out _ _ (hHeld.keep y6) (fun hHeld => ?_)
    clear hK K
    try simp only [Act.put, List.setIfInBounds_toArray, List.set_cons_zero, List.set_cons_succ]
    refine wpAnyH_ready (rs := [9]) (by kernel_rfl) (by simp) ?_
    refine AllReadyH.cons (o := ⟨some 20, _, _, _, _, _⟩) rfl (fun K hK => ?_) AllReadyH.nil
    go_simp
    refine (M _ h7).mono ?_; rintro e z9 ⟨rfl, h9, k9⟩
    refine hK.out _ _ (hHeld.keepS k9 (h7.not_two hHeld)) (fun hHeld => ?_)
    clear hK K
    try simp only [Act.put, List.setIfInBounds_toArray, List.set_cons_zero, List.set_cons_succ]
    refine wpAnyH_take (i := 10) (oi := ⟨some 4, _, _, _, _, _⟩) (v := ?_) rfl (by kernel_rfl) (by kernel_rfl) (by kernel_rfl) (fun _ _ _ h => h) (Or.inl ⟨by rfl, ?_⟩) (by assumption) ?_
    rotate_left
    · (intro wq hSw; (try dsimp only at hSw); go_simp; try with_reducible rfl)
    try simp only [Act.put, List.setIfInBounds_toArray, List.set_cons_zero, List.set_cons_succ]
    refine wpAnyH_done (by kernel_rfl) ?_ _
    have K : Hid (Keeps (Two mb ms) w z9) := (n7.mono (fun _ _ h => h.elim)).then k9 (fun _ h => .inl h)
    have H9 := Lib.hid h9
    clear k9 h9 hHeld S5 h7 h6 h5 n5 n6 n7
    go_wp2_with fail
    go_ret
    exact ⟨by rw [HE2.out]; rfl, by rw [HS2.out]; exact H9.out, K.out⟩
end Go.Proofs.Ytcldbipipehedaa
