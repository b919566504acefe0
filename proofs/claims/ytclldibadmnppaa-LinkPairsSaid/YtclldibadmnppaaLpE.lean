/-
  WALKS: voussoirlaw17.Play.put, at a number that is there.
-/
import Derived.Test.YtclldibadmnppaaLpD
import Derived.Deep.RegionLawGrows
import Derived.Lib.SmallJoins
namespace Go.Proofs.Ytclldibadmnppaa
open Go.RowKit
/-- an end turned, the histories not yet -/
theorem mid2_of {w0 W : World} {P Q c n ge m ecap : Nat} {E V : Nat → Value} {B : Nat → List Value} {s : His} {l : Ln} (hc : c < 2) (h1 : Pla w0 W P E V B (ends s) s) (hEe : E c = .slice (some ⟨ge, 0, none⟩) m ecap) (hn : n < (ends s c).length) (q1 : lk W Q l) (hQ : ge < Q) :
    Pla w0 ((((W.setCell ⟨ge, n * 4, none⟩ (.int .i64 (l.st : Nat))).setCell ⟨ge, n * 4 + 1, none⟩ (.int .u64 (l.cl : Nat))).setCell ⟨ge, n * 4 + 2, none⟩ (.int .u64 (l.pe : Nat))).setCell ⟨ge, n * 4 + 3, none⟩ (.int .u64 (l.pc : Nat))) P E V B (upd (ends s) c ((ends s c).set n l)) s ∧
      lk ((((W.setCell ⟨ge, n * 4, none⟩ (.int .i64 (l.st : Nat))).setCell ⟨ge, n * 4 + 1, none⟩ (.int .u64 (l.cl : Nat))).setCell ⟨ge, n * 4 + 2, none⟩ (.int .u64 (l.pe : Nat))).setCell ⟨ge, n * 4 + 3, none⟩ (.int .u64 (l.pc : Nat))) Q l := by
  have hg : (E c).ownBlock = some ge := by rw [hEe]; rfl
  have hge := (World.ownsRow.lt (h1.bdy.ends c hc) ge hg).1
  have K : Keeps (fun k => k = ge) W ((((W.setCell ⟨ge, n * 4, none⟩ (.int .i64 (l.st : Nat))).setCell ⟨ge, n * 4 + 1, none⟩ (.int .u64 (l.cl : Nat))).setCell ⟨ge, n * 4 + 2, none⟩ (.int .u64 (l.pe : Nat))).setCell ⟨ge, n * 4 + 3, none⟩ (.int .u64 (l.pc : Nat))) :=
    ((((Keeps.refl (fun k => k = ge) W).set1 _ _).set1 _ _).set1 _ _).set1 _ _
  refine ⟨⟨h1.blk.keepS K (fun e => ?_), h1.ge, h1.bdy.setEnd hc l hEe hn, h1.new.then K (fun j hj => .inr (by rw [hj]; exact hge))⟩, K.kept q1 (by omega)⟩
  exact plB.far h1.blk (h1.bdy.ends c hc) (by decide) (by rw [hg, e])
/-- what the loads of the last statement read -/
structure S5 (w : World) (P c gv m vcap Q : Nat) (l : Ln) : Prop where
  cell : w.cell? ⟨P, 2 + c, none⟩ = some (.slice (some ⟨gv, 0, none⟩) m vcap)
  lt : P < w.heap.size
  lk : lk w Q l
theorem S5.keepS {S : Nat → Prop} {w w' : World} {P c gv m vcap Q : Nat} {l : Ln} (h : S5 w P c gv m vcap Q l) (k : Keeps S w w') (h1 : ¬ S P) (h2 : ¬ S Q) : S5 w' P c gv m vcap Q l :=
  ⟨(k.cell h.lt h1).trans h.cell, Nat.lt_of_lt_of_le h.lt k.size, k.kept h.lk h2⟩
theorem S5.keep {w w' : World} {P c gv m vcap Q : Nat} {l : Ln} (h : S5 w P c gv m vcap Q l) (k : New w w') : S5 w' P c gv m vcap Q l := h.keepS k (fun h => h) (fun h => h)
theorem fin2_of {w0 W W1 w' : World} {P c n m vcap gv g cap Q : Nat} {E V : Nat → Value} {B : Nat → List Value} {s : His} {a l : Ln} (hc : c < 2) (h3 : Pla w0 W P E V B (upd (ends s) c ((ends s c).set n l)) s) (hVe : V c = .slice (some ⟨gv, 0, none⟩) m vcap) (hk : (s c)[n]? = some [a]) (q1 : lk W Q l)
    (kW : New W W1) (hown : w'.ownsRow W1.heap.size 36 4 (.slice (some ⟨g, 0, none⟩) (1 + 1) cap) (1 + 1) (flatL [a] ++ lnV l)) (hg : W1.grownBy w' none) :
    (w'.cell? ⟨gv, n, none⟩ ≠ none ∧ w'.frozen? ⟨gv, n, none⟩ = false) ∧ New W w' ∧ Keeps (fun k => k = gv) w' (w'.setCell ⟨gv, n, none⟩ (.slice (some ⟨g, 0, none⟩) (1 + 1) cap)) ∧ (P ≠ gv ∧ Q ≠ gv) ∧ Pl w0 (w'.setCell ⟨gv, n, none⟩ (.slice (some ⟨g, 0, none⟩) (1 + 1) cap)) P (setH s c n [a] l) := by
  have k2 : New W w' := kW.then ((Keeps.refl (fun _ => False) W1).grown hg (fun k hk => by cases hk)) (fun _ h => h.elim)
  have h4 := h3.keep k2
  have hgv : (V c).ownBlock = some gv := by rw [hVe]; rfl
  have hwas := h4.bdy.was c hc
  have hge := (World.ownsRow.lt hwas gv hgv).1
  obtain ⟨v, hv1, -⟩ := h4.bdy.his c n [a] hc hk
  have hm : m = (s c).length := by
    rcases hwas.2 with ⟨e, -⟩ | ⟨g2, c2, cur, e, -⟩
    · rw [hVe] at e; cases e
    · rw [hVe] at e; cases e; rfl
  rw [hVe, hm] at hwas
  have d1 := slot_at hwas hv1
  have d2 := World.ownsRow.frozenAt hwas n
  have K : Keeps (fun k => k = gv) w' (w'.setCell ⟨gv, n, none⟩ (.slice (some ⟨g, 0, none⟩) (1 + 1) cap)) := (Keeps.refl (fun k => k = gv) w').set1 _ _
  have hP : P ≠ gv := fun e => plB.far h4.blk (h4.bdy.was c hc) (by decide) (by rw [hgv, e])
  have hQ : Q ≠ gv := by
    rintro rfl
    obtain ⟨cur, p⟩ := own_blk (h4.bdy.was c hc) hgv
    have q := q1.keep k2
    unfold lk at q
    rw [p] at q
    simp at q
  have hu : HV w0 w' (.slice (some ⟨g, 0, none⟩) (1 + 1) cap) ([a] ++ [l]) := by
    refine ⟨?_, by simp, fun h => by simp at h⟩
    have := Joins.ownsRow_le hown (Nat.le_trans h3.new.size kW.size)
    rw [flatL_app]
    simpa [flatL] using this
  have hu2 : ∀ d, d < 2 → Apart (.slice (some ⟨g, 0, none⟩) (1 + 1) cap) (E d) := by
    intro d hd k e1 e2
    have b1 := (World.ownsRow.lt ((h3.keep kW).bdy.ends d hd) k e2).2
    have b2 := (World.ownsRow.lt hown k e1).1
    omega
  refine ⟨⟨by rw [d1]; simp, d2⟩, k2, K, ⟨hP, hQ⟩, E, V, upd B c ((B c).set n (.slice (some ⟨g, 0, none⟩) (1 + 1) cap)), ⟨h4.blk.keepS K hP, h4.ge, ?_, h4.new.then K (fun j hj => .inr (by rw [hj]; exact hge))⟩⟩
  rw [← ends_set]
  exact h4.bdy.setWas hc l hVe hk hu hu2
set_option maxHeartbeats 8000000 in
set_option maxRecDepth 100000 in
theorem put_set (w0 : World) (P : Nat) (s : His) (c n : Nat) (a l : Ln) (hc : c < 2) (hk : (s c)[n]? = some [a]) (hls : (s c).length ≤ 1000) (w : World) (h : Pl w0 w P s) :
    Calls Try.prog 55 #[.pointer (some ⟨P, 0, none⟩), .int .i64 (c : Nat), .int .i64 (n : Nat), .agg #[.int .i64 (l.st : Nat), .int .u64 (l.cl : Nat), .int .u64 (l.pe : Nat), .int .u64 (l.pc : Nat)]] w fun e w' => e = .returned (.tuple #[]) ∧ Pl w0 w' P (setH s c n [a] l) := by
  have n1 : New w (w.alloc (.cells #[.int .i64 (l.st : Nat), .int .u64 (l.cl : Nat), .int .u64 (l.pe : Nat), .int .u64 (l.pc : Nat)] 36)) := (Keeps.refl _ w).alloc _
  have q1 : lk (w.alloc (.cells #[.int .i64 (l.st : Nat), .int .u64 (l.cl : Nat), .int .u64 (l.pe : Nat), .int .u64 (l.pc : Nat)] 36)) w.heap.size l := heap_alloc_new w _
  obtain ⟨E, V, B, h0⟩ := h
  obtain ⟨i0, hi, hz0, hz1, hz2⟩ := info_p info_link0
  have hnl : n < (s c).length := (List.getElem?_eq_some_iff.1 hk).1
  have hL := ends_len s c
  obtain ⟨L, hLL⟩ : ∃ L, Hid ((s c).length = L) := ⟨_, rfl⟩
  rw [hLL.out] at hnl hls hL
  obtain ⟨ge, ecap, hEe, -, hQ⟩ := own_some (h0.bdy.ends c hc) (by omega)
  obtain ⟨gv, vcap, hVe, -, hQv⟩ := own_some (h0.bdy.was c hc) (by rw [hLL.out]; omega)
  rw [hL] at hEe
  rw [hLL.out] at hVe
  have h1 := h0.keep n1
  clear h0
  have hE := h1.bdy.ends c hc
  have pE := (h1.blk.cell hc).1
  rw [hEe] at pE hE
  rw [hL] at hE
  have c0 : (0 : Int) ≤ (c : Int) := Int.natCast_nonneg _
  have c2 : (c : Int) < 2 := by omega
  have n0 : (0 : Int) ≤ (n : Int) := Int.natCast_nonneg _
  have nL : (n : Int) < (L : Int) := by omega
  have nL2 : ¬ (L : Int) ≤ (n : Int) := by omega
  obtain ⟨e0, e1, e2, e3⟩ := link_at hE (ends_at hk)
  have f0 := World.ownsRow.frozenAt hE (n * 4)
  have f1 := World.ownsRow.frozenAt hE (n * 4 + 1)
  have f2 := World.ownsRow.frozenAt hE (n * 4 + 2)
  have f3 := World.ownsRow.frozenAt hE (n * 4 + 3)
  clear hE
  go_enter Try.func55, Try.ntmps55
  go_upto_region 1 with (fail)
  revert n1 q1 hQ hQv h1 pE e0 e1 e2 e3 f0 f1 f2 f3
  generalize World.alloc w _ = W
  generalize w.heap.size = Q
  intro n1 q1 hQ hQv h1 pE e0 e1 e2 e3 f0 f1 f2 f3
  go_upto_region 4 with (fail)
  go_cut [7] from 17 to 55 (fun v wx => v = .pointer (some ⟨Q, 0, none⟩) ∧ Pla w0 wx P E V B (upd (ends s) c ((ends s c).set n l)) s ∧ lk wx Q l)
  case first =>
    obtain ⟨M1, M2⟩ := mid2_of (n := n) hc h1.drew hEe (by omega) (show lk W.drew Q l from q1) hQ
    have cq := q1.cells
    go_region
    all_goals (go_wp2_with fail; go_meet; case rel => exact ⟨rfl, M1, M2⟩)
  case rest =>
    clear h1 pE q1 e0 e1 e2 e3 f0 f1 f2 f3
    obtain ⟨rfl, h3, q3⟩ := hcut
    have pV := (h3.blk.cell hc).2.1
    rw [hVe] at pV
    have hV := h3.bdy.was c hc
    rw [hVe, hLL.out] at hV
    obtain ⟨v, hv1, ⟨hv2, -, hv3⟩, -⟩ := h3.bdy.his c n [a] hc hk
    obtain ⟨gh, rfl⟩ := hv3 rfl
    have dv := slot_at hV hv1
    have lv : gv < wc.heap.size := by have := (World.ownsRow.lt hV gv rfl).2; exact this
    have lh : gh < wc.heap.size := by have := (World.ownsRow.lt hv2 gh rfl).2; exact this
    have hs5 : S5 wc.drew P c gv L vcap Q l := ⟨pV, (Array.getElem?_eq_some_iff.1 h3.blk).1, q3⟩
    have olds : ∀ (w1 : World), New wc w1 → ∀ b, (some ⟨gh, 0, none⟩ : Option Addr) = some b → ∀ j u, (flatL [a])[j]? = some u → w1.cell? (b.add j) = some u := by
      intro w1 k b e j u hj
      cases e
      exact World.ownsRow.cells (Keeps.owns k hv2 (fun _ _ h => h)) (g := gh) rfl j u hj
    have kd : New wc wc.drew := (Keeps.refl _ wc).drew
    go_upto_region 5 with (fail)
    refine wp_region_held_drew (S := (fun w' => S5 w' P c gv L vcap Q l)) (by kernel_rfl) ?_ (fun hHeld => ?_)
    · exact hs5
    refine wpAnyH_take (i := 0) (oi := ⟨some 55, _, _, _, _, _⟩) (v := ?_) rfl (by kernel_rfl) (by kernel_rfl) (by kernel_rfl) (fun _ _ _ h => h) (Or.inl ⟨by rfl, ?_⟩) (by assumption) ?_
    rotate_left
    · (intro wq hSw; (try dsimp only at hSw); go_simp; try with_reducible rfl)
    try simp only [Act.put, List.setIfInBounds_toArray, List.set_cons_zero, List.set_cons_succ]
    refine wpAnyH_take (i := 1) (oi := ⟨some 56, _, _, _, _, _⟩) (v := ?_) rfl (by kernel_rfl) (by kernel_rfl) (by kernel_rfl) (fun _ _ _ h => h) (Or.inl ⟨by rfl, ?_⟩) (by assumption) ?_
    rotate_left
    · (intro wq hSw; (try dsimp only at hSw); go_simp; try with_reducible rfl)
    try simp only [Act.put, List.setIfInBounds_toArray, List.set_cons_zero, List.set_cons_succ]
    refine wpAnyH_take (i := 2) (oi := ⟨some 57, _, _, _, _, _⟩) (v := ?_) rfl (by kernel_rfl) (by kernel_rfl) (by kernel_rfl) (fun _ _ _ h => h) (Or.inl ⟨by rfl, ?_⟩) (by assumption) ?_
    rotate_left
    · (intro wq hSw; (try dsimp only at hSw); go_simp; try with_reducible rfl)
    try simp only [Act.put, List.setIfInBounds_toArray, List.set_cons_zero, List.set_cons_succ]
    refine wpAnyH_take (i := 3) (oi := ⟨some 58, _, _, _, _, _⟩) (v := ?_) rfl (by kernel_rfl) (by kernel_rfl) (by kernel_rfl) (fun _ _ _ h => h) (Or.inl ⟨by rfl, ?_⟩) (by assumption) ?_
    rotate_left
    · (intro wq hSw; (try dsimp only at hSw); go_simp; try with_reducible rfl)
    try simp only [Act.put, List.setIfInBounds_toArray, List.set_cons_zero, List.set_cons_succ]
    refine wpAnyH_take (i := 4) (oi := ⟨some 59, _, _, _, _, _⟩) (v := ?_) rfl (by kernel_rfl) (by kernel_rfl) (by kernel_rfl) (fun _ _ _ h => h) (Or.inl ⟨by rfl, ?_⟩) (by assumption) ?_
    rotate_left
    · (intro wq hSw; (try dsimp only at hSw); go_simp; try with_reducible rfl)
    try simp only [Act.put, List.setIfInBounds_toArray, List.set_cons_zero, List.set_cons_succ]
    refine wpAnyH_take (i := 5) (oi := ⟨some 60, _, _, _, _, _⟩) (v := ?_) rfl (by kernel_rfl) (by kernel_rfl) (by kernel_rfl) (fun _ _ _ h => h) (Or.inl ⟨by rfl, ?_⟩) (by assumption) ?_
    rotate_left
    · (intro wq hSw; (try dsimp only at hSw); have d := hSw.cell; go_simp; try with_reducible rfl)
    try simp only [Act.put, List.setIfInBounds_toArray, List.set_cons_zero, List.set_cons_succ]
    refine wpAnyH_take (i := 6) (oi := ⟨some 61, _, _, _, _, _⟩) (v := ?_) rfl (by kernel_rfl) (by kernel_rfl) (by kernel_rfl) (fun _ _ _ h => h) (Or.inl ⟨by rfl, ?_⟩) (by assumption) ?_
    rotate_left
    · (intro wq hSw; (try dsimp only at hSw); go_simp; try with_reducible rfl)
    try simp only [Act.put, List.setIfInBounds_toArray, List.set_cons_zero, List.set_cons_succ]
    refine wpAnyH_take (i := 7) (oi := ⟨some 62, _, _, _, _, _⟩) (v := ?_) rfl (by kernel_rfl) (by kernel_rfl) (by kernel_rfl) (fun _ _ _ h => h) (Or.inl ⟨by rfl, ?_⟩) (by assumption) ?_
    rotate_left
    · (intro wq hSw; (try dsimp only at hSw); go_simp; try with_reducible rfl)
    try simp only [Act.put, List.setIfInBounds_toArray, List.set_cons_zero, List.set_cons_succ]
    refine wpAnyH_take (i := 8) (oi := ⟨some 63, _, _, _, _, _⟩) (v := ?_) rfl (by kernel_rfl) (by kernel_rfl) (by kernel_rfl) (fun _ _ _ h => h) (Or.inl ⟨by rfl, ?_⟩) (by assumption) ?_
    rotate_left
    · (intro wq hSw; (try dsimp only at hSw); go_simp; try with_reducible rfl)
    try simp only [Act.put, List.setIfInBounds_toArray, List.set_cons_zero, List.set_cons_succ]
    refine wpAnyH_take (i := 9) (oi := ⟨some 64, _, _, _, _, _⟩) (v := ?_) rfl (by kernel_rfl) (by kernel_rfl) (by kernel_rfl) (fun _ _ _ h => h) (Or.inl ⟨by rfl, ?_⟩) (by assumption) ?_
    rotate_left
    · (intro wq hSw; (try dsimp only at hSw); go_simp; try with_reducible rfl)
    try simp only [Act.put, List.setIfInBounds_toArray, List.set_cons_zero, List.set_cons_succ]
    refine wpAnyH_take (i := 10) (oi := ⟨some 65, _, _, _, _, _⟩) (v := ?_) rfl (by kernel_rfl) (by kernel_rfl) (by kernel_rfl) (fun _ _ _ h => h) (Or.inl ⟨by rfl, ?_⟩) (by assumption) ?_
    rotate_left
    · (intro wq hSw; (try dsimp only at hSw); go_simp; try with_reducible rfl)
    try simp only [Act.put, List.setIfInBounds_toArray, List.set_cons_zero, List.set_cons_succ]
    refine wpAnyH_take (i := 11) (oi := ⟨some 66, _, _, _, _, _⟩) (v := ?_) rfl (by kernel_rfl) (by kernel_rfl) (by kernel_rfl) (fun _ _ _ h => h) (Or.inl ⟨by rfl, ?_⟩) (by assumption) ?_
    rotate_left
    · (intro wq hSw; (try dsimp only at hSw); go_simp; try with_reducible rfl)
    try simp only [Act.put, List.setIfInBounds_toArray, List.set_cons_zero, List.set_cons_succ]
    refine wpAnyH_take (i := 12) (oi := ⟨some 67, _, _, _, _, _⟩) (v := ?_) rfl (by kernel_rfl) (by kernel_rfl) (by kernel_rfl) (fun _ _ _ h => h) (Or.inl ⟨by rfl, ?_⟩) (by assumption) ?_
    rotate_left
    · (intro wq hSw; (try dsimp only at hSw); have d := hSw.cell; go_simp; try with_reducible rfl)
    try simp only [Act.put, List.setIfInBounds_toArray, List.set_cons_zero, List.set_cons_succ]
    refine wpAnyH_take (i := 13) (oi := ⟨some 68, _, _, _, _, _⟩) (v := ?_) rfl (by kernel_rfl) (by kernel_rfl) (by kernel_rfl) (fun _ _ _ h => h) (Or.inl ⟨by rfl, ?_⟩) (by assumption) ?_
    rotate_left
    · (intro wq hSw; (try dsimp only at hSw); go_simp; try with_reducible rfl)
    try simp only [Act.put, List.setIfInBounds_toArray, List.set_cons_zero, List.set_cons_succ]
    refine wpAnyH_take (i := 14) (oi := ⟨some 69, _, _, _, _, _⟩) (v := ?_) rfl (by kernel_rfl) (by kernel_rfl) (by kernel_rfl) (fun _ _ _ h => h) (Or.inl ⟨by rfl, ?_⟩) (by assumption) ?_
    rotate_left
    · (intro wq hSw; (try dsimp only at hSw); go_simp; try with_reducible rfl)
    try simp only [Act.put, List.setIfInBounds_toArray, List.set_cons_zero, List.set_cons_succ]
    refine wpAnyH_take (i := 16) (oi := ⟨some 71, _, _, _, _, _⟩) (v := ?_) rfl (by kernel_rfl) (by kernel_rfl) (by kernel_rfl) (fun _ _ _ h => h) (Or.inl ⟨by rfl, ?_⟩) (by assumption) ?_
    rotate_left
    · (intro wq hSw; (try dsimp only at hSw); have d := hSw.lk.cells; go_simp; try with_reducible rfl)
    try simp only [Act.put, List.setIfInBounds_toArray, List.set_cons_zero, List.set_cons_succ]
    refine wpAnyH_ready (rs := [15, 17]) (by kernel_rfl) (by simp) ?_
    refine AllReadyH.cons (o := ⟨some 70, _, _, _, _, _⟩) rfl (fun K hK => ?_) (AllReadyH.cons (o := ⟨some 72, _, _, _, _, _⟩) rfl (fun K hK => ?_) AllReadyH.nil)
    focus
      go_simp
      refine hK.out _ _ hHeld (fun hHeld => ?_)
      clear hK K
      try simp only [Act.put, List.setIfInBounds_toArray, List.set_cons_zero, List.set_cons_succ]
      refine wpAnyH_ready (rs := [17]) (by kernel_rfl) (by simp) ?_
      refine AllReadyH.cons (o := ⟨some 72, _, _, _, _, _⟩) rfl (fun K hK => ?_) AllReadyH.nil
      go_simp
      refine hK.out _ _ (hHeld.keep ((Keeps.refl _ _).alloc _)) (fun hHeld => ?_)
      clear hK K
      try simp only [Act.put, List.setIfInBounds_toArray, List.set_cons_zero, List.set_cons_succ]
      refine wpAnyH_ready (rs := [18]) (by kernel_rfl) (by simp) ?_
      refine AllReadyH.cons (o := ⟨some 73, _, _, _, _, _⟩) rfl (fun K hK => ?_) AllReadyH.nil
      refine step_append_grows rfl (.tmp 70) (.tmp 72) 25 rfl 36 i0 _ 4 32 Try.underlying25 hi hz0 hz1 hz2 rfl (by decide) (some ⟨gh, 0, none⟩) 1 1 (flatL [a]) (by simp [Act.eval]) (fun h => by cases h) rfl (olds _ (kd.alloc _)) ⟨wc.heap.size, 0, none⟩ 1 1 (lnV l) (by simp [Act.eval]) rfl (news_at wc.drew l 36) (lnV_one l) (by omega) (by unfold maxLen; omega) (by omega) ?_; intro v' w' hown hg; obtain ⟨g, cap, rfl⟩ := Joins.ownsRow_form hown (by omega); obtain ⟨⟨pa, pf⟩, kn, K20, ⟨nP, nQ⟩, MM⟩ := fin2_of hc h3 hVe hk q3 (kd.alloc _) hown hg; have pc := (kn.cell (p := ⟨gv, n, none⟩) lv (fun h => h)).trans dv
      refine hK.out _ _ (S5.keep hs5 ⟨kn.os, kn.tape, kn.output, kn.size, kn.block⟩) (fun hHeld => ?_)
      clear hK K
      try simp only [Act.put, List.setIfInBounds_toArray, List.set_cons_zero, List.set_cons_succ]
      refine wpAnyH_take (i := 19) (oi := ⟨some 74, _, _, _, _, _⟩) (v := ?_) rfl (by kernel_rfl) (by kernel_rfl) (by kernel_rfl) (fun _ _ _ h => h) (Or.inl ⟨by rfl, ?_⟩) (by assumption) ?_
      rotate_left
      · (intro wq hSw; (try dsimp only at hSw); go_simp; try with_reducible rfl)
      try simp only [Act.put, List.setIfInBounds_toArray, List.set_cons_zero, List.set_cons_succ]
      refine wpAnyH_ready (rs := [20]) (by kernel_rfl) (by simp) ?_
      refine AllReadyH.cons (o := ⟨none, _, _, _, _, _⟩) rfl (fun K hK => ?_) AllReadyH.nil
      go_simp
      refine hK.out _ _ (hHeld.keepS K20 nP nQ) (fun hHeld => ?_)
      clear hK K
      try simp only [Act.put, List.setIfInBounds_toArray, List.set_cons_zero, List.set_cons_succ]
      refine wpAnyH_done (by kernel_rfl) ?_ _
    rotate_left 1
    focus
      go_simp
      refine hK.out _ _ (hHeld.keep ((Keeps.refl _ _).alloc _)) (fun hHeld => ?_)
      clear hK K
      try simp only [Act.put, List.setIfInBounds_toArray, List.set_cons_zero, List.set_cons_succ]
      refine wpAnyH_ready (rs := [15]) (by kernel_rfl) (by simp) ?_
      refine AllReadyH.cons (o := ⟨some 70, _, _, _, _, _⟩) rfl (fun K hK => ?_) AllReadyH.nil
      go_simp
      refine hK.out _ _ hHeld (fun hHeld => ?_)
      clear hK K
      try simp only [Act.put, List.setIfInBounds_toArray, List.set_cons_zero, List.set_cons_succ]
      refine wpAnyH_ready (rs := [18]) (by kernel_rfl) (by simp) ?_
      refine AllReadyH.cons (o := ⟨some 73, _, _, _, _, _⟩) rfl (fun K hK => ?_) AllReadyH.nil
      refine step_append_grows rfl (.tmp 70) (.tmp 72) 25 rfl 36 i0 _ 4 32 Try.underlying25 hi hz0 hz1 hz2 rfl (by decide) (some ⟨gh, 0, none⟩) 1 1 (flatL [a]) (by simp [Act.eval]) (fun h => by cases h) rfl (olds _ (kd.alloc _)) ⟨wc.heap.size, 0, none⟩ 1 1 (lnV l) (by simp [Act.eval]) rfl (news_at wc.drew l 36) (lnV_one l) (by omega) (by unfold maxLen; omega) (by omega) ?_; intro v' w' hown hg; obtain ⟨g, cap, rfl⟩ := Joins.ownsRow_form hown (by omega); obtain ⟨⟨pa, pf⟩, kn, K20, ⟨nP, nQ⟩, MM⟩ := fin2_of hc h3 hVe hk q3 (kd.alloc _) hown hg; have pc := (kn.cell (p := ⟨gv, n, none⟩) lv (fun h => h)).trans dv
      refine hK.out _ _ (S5.keep hs5 ⟨kn.os, kn.tape, kn.output, kn.size, kn.block⟩) (fun hHeld => ?_)
      clear hK K
      try simp only [Act.put, List.setIfInBounds_toArray, List.set_cons_zero, List.set_cons_succ]
      refine wpAnyH_take (i := 19) (oi := ⟨some 74, _, _, _, _, _⟩) (v := ?_) rfl (by kernel_rfl) (by kernel_rfl) (by kernel_rfl) (fun _ _ _ h => h) (Or.inl ⟨by rfl, ?_⟩) (by assumption) ?_
      rotate_left
      · (intro wq hSw; (try dsimp only at hSw); go_simp; try with_reducible rfl)
      try simp only [Act.put, List.setIfInBounds_toArray, List.set_cons_zero, List.set_cons_succ]
      refine wpAnyH_ready (rs := [20]) (by kernel_rfl) (by simp) ?_
      refine AllReadyH.cons (o := ⟨none, _, _, _, _, _⟩) rfl (fun K hK => ?_) AllReadyH.nil
      go_simp
      refine hK.out _ _ (hHeld.keepS K20 nP nQ) (fun hHeld => ?_)
      clear hK K
      try simp only [Act.put, List.setIfInBounds_toArray, List.set_cons_zero, List.set_cons_succ]
      refine wpAnyH_done (by kernel_rfl) ?_ _
    rotate_left 1
    all_goals (go_wp2_with fail; go_end0; exact ⟨rfl, MM⟩)
end Go.Proofs.Ytclldibadmnppaa
