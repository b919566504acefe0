/-
  WALKS: voussoirlaw17.Play.does.
-/
import Derived.Test.YtclldibadmnppaaLpE
namespace Go.Proofs.Ytclldibadmnppaa
open Go.RowKit
structure A17 where
  what : Int
  chain : Int
  own : Int
  peer : Int
  a : Int
  b : Int
def aA (w : World) (q : Nat) (x : A17) : Prop := w.heap[q]? = some (.cells #[.int .i64 x.what, .int .i64 x.chain, .int .i64 x.own, .int .i64 x.peer, .int .i64 x.a, .int .i64 x.b] 33 (0, 0))
theorem aA.cells {w : World} {q : Nat} {x : A17} (h : aA w q x) : w.cell? ⟨q, 0, none⟩ = some (.int .i64 x.what) ∧ w.cell? ⟨q, 1, none⟩ = some (.int .i64 x.chain) ∧ w.cell? ⟨q, 2, none⟩ = some (.int .i64 x.own) ∧ w.cell? ⟨q, 3, none⟩ = some (.int .i64 x.peer) ∧ w.cell? ⟨q, 4, none⟩ = some (.int .i64 x.a) ∧ w.cell? ⟨q, 5, none⟩ = some (.int .i64 x.b) := by
  refine ⟨?_, ?_, ?_, ?_, ?_, ?_⟩ <;> (rw [cell_blk h]; rfl)
theorem putN {w0 : World} {P : Nat} {s : His} {c n : Nat} (l : Ln) (j0 j1 j2 j3 : Int) (e0 : j0 = (l.st : Nat)) (e1 : j1 = (l.cl : Nat)) (e2 : j2 = (l.pe : Nat)) (e3 : j3 = (l.pc : Nat)) (hc : c < 2) (hn : n = (s c).length) (hls : n ≤ 1000) (w : World) (h : Pl w0 w P s) :
    Calls Try.prog 55 #[.pointer (some ⟨P, 0, none⟩), .int .i64 (c : Nat), .int .i64 (n : Nat), .agg #[.int .i64 j0, .int .u64 j1, .int .u64 j2, .int .u64 j3]] w fun e w' => e = .returned (.tuple #[]) ∧ Pl w0 w' P (newH s c l) := by
  subst e0 e1 e2 e3
  exact put_new w0 P s c n l hc hn (by omega) w h
theorem putS {w0 : World} {P : Nat} {s : His} {c n : Nat} {a : Ln} (l : Ln) (j0 j1 j2 j3 : Int) (e0 : j0 = (l.st : Nat)) (e1 : j1 = (l.cl : Nat)) (e2 : j2 = (l.pe : Nat)) (e3 : j3 = (l.pc : Nat)) (hc : c < 2) (hk : (s c)[n]? = some [a]) (hls : (s c).length ≤ 1000) (w : World) (h : Pl w0 w P s) :
    Calls Try.prog 55 #[.pointer (some ⟨P, 0, none⟩), .int .i64 (c : Nat), .int .i64 (n : Nat), .agg #[.int .i64 j0, .int .u64 j1, .int .u64 j2, .int .u64 j3]] w fun e w' => e = .returned (.tuple #[]) ∧ Pl w0 w' P (setH s c n [a] l) := by
  subst e0 e1 e2 e3
  exact put_set w0 P s c n a l hc hk hls w h
theorem stoodS {w0 : World} {P : Nat} {s : His} (l : Ln) (j0 j1 j2 j3 : Int) (e0 : j0 = (l.st : Nat)) (e1 : j1 = (l.cl : Nat)) (e2 : j2 = (l.pe : Nat)) (e3 : j3 = (l.pc : Nat)) {o n : Nat} (ho : o < 2) (hK : KL s) (hl : ∀ c, c < 2 → (s c).length ≤ 5) (w : World) (h : Pl w0 w P s) :
    Calls Try.prog 56 #[.pointer (some ⟨P, 0, none⟩), .int .i64 (o : Nat), .int .u64 (n : Nat), .agg #[.int .i64 j0, .int .u64 j1, .int .u64 j2, .int .u64 j3]] w fun e w' => e = .returned (.bool (stoodB s o n l)) ∧ New w w' := by
  subst e0 e1 e2 e3
  refine stood_any w0 P s o n l ho (by have := hl o ho; omega) (fun k hk => ?_) w h
  obtain ⟨i, hi⟩ := List.mem_iff_getElem?.1 hk
  rcases kl_len (hK o i k ho hi) with e | ⟨e, -⟩ <;> omega
theorem len_new {s : His} {c : Nat} {l : Ln} (hl : ∀ c, c < 2 → (s c).length ≤ 5) (h : (s c).length < 5) : ∀ d, d < 2 → (newH s c l d).length ≤ 5 := by
  intro d hd
  unfold newH upd
  split
  · rw [List.length_append]; simp; omega
  · exact hl d hd
theorem len_set {s : His} {c n : Nat} {k : List Ln} {l : Ln} (hc : c < 2) (hl : ∀ c, c < 2 → (s c).length ≤ 5) : ∀ d, d < 2 → (setH s c n k l d).length ≤ 5 := by
  intro d hd
  unfold setH upd
  split
  · rw [List.length_set]; exact hl c hc
  · exact hl d hd
/-- what a step leaves -/
def Did (w0 w' : World) (P : Nat) : Prop := ∃ s', Pl w0 w' P s' ∧ KL s' ∧ ∀ c, c < 2 → (s' c).length ≤ 5
set_option maxHeartbeats 4000000 in
set_option maxRecDepth 100000 in
theorem does_0 (w0 : World) (P : Nat) (s : His) (x : A17) (i0 : I64 x.what) (i1 : I64 x.chain) (_i2 : I64 x.own) (i3 : I64 x.peer) (i4 : I64 x.a) (i5 : I64 x.b) (hw : pk x.what 4 = 0) (hK : KL s) (hl : ∀ c, c < 2 → (s c).length ≤ 5) (w : World) (h : Pl w0 w P s) :
    Calls Try.prog 19 #[.pointer (some ⟨P, 0, none⟩), .agg #[.int .i64 x.what, .int .i64 x.chain, .int .i64 x.own, .int .i64 x.peer, .int .i64 x.a, .int .i64 x.b]] w fun e w' => e = .returned (.tuple #[]) ∧ Did w0 w' P := by
  have n1 : New w (w.alloc (.cells #[.int .i64 x.what, .int .i64 x.chain, .int .i64 x.own, .int .i64 x.peer, .int .i64 x.a, .int .i64 x.b] 33)) := (Keeps.refl _ w).alloc _
  have a1 : aA (w.alloc (.cells #[.int .i64 x.what, .int .i64 x.chain, .int .i64 x.own, .int .i64 x.peer, .int .i64 x.a, .int .i64 x.b] 33)) w.heap.size x := heap_alloc_new w _
  have h1 := h.keep n1
  clear h n1
  have PW : ∀ w, Calls Try.prog 54 #[.int .i64 x.what, .int .i64 4] w fun e w' => e = .returned (.int .i64 0) ∧ w = w' := by
    intro w
    have := pick17p x.what 4 w i0 (by omega) (by omega)
    rw [hw] at this
    exact this
  have PC := fun w => pick17p x.chain 2 w i1 (by omega) (by omega)
  have PP := fun w => pick17p x.peer 5 w i3 (by omega) (by omega)
  have PA := fun w => pick17p x.a 2 w i4 (by omega) (by omega)
  have PB := fun w => pick17p x.b 2 w i5 (by omega) (by omega)
  have hc := pk_lt x.chain 2 (by omega)
  have hp := pk_lt x.peer 5 (by omega)
  have ha := pk_lt x.a 2 (by omega)
  have hb := pk_lt x.b 2 (by omega)
  generalize pk x.chain 2 = c at *
  generalize pk x.peer 5 = p at *
  generalize pk x.a 2 = xa at *
  generalize pk x.b 2 = xb at *
  have c0 : (0 : Int) ≤ (c : Int) := Int.natCast_nonneg _
  have c2 : (c : Int) < 2 := by omega
  obtain ⟨o, ho⟩ : ∃ o, Hid (1 - c = o) := ⟨_, rfl⟩
  have ho2 : o < 2 := by rw [← ho.out]; omega
  have eo : IntKind.i64.wrap (1 - (c : Int)) = (o : Int) := by rw [IntWalk.i64_in _ ⟨by omega, by omega⟩, ← ho.out]; omega
  have ep : IntKind.u64.wrap (p : Int) = (p : Int) := IntWalk.u64_in _ ⟨by omega, by omega⟩
  have ea : IntKind.u64.wrap (xa : Int) = (xa : Int) := IntWalk.u64_in _ ⟨by omega, by omega⟩
  have eb : IntKind.u64.wrap (xb : Int) = (xb : Int) := IntWalk.u64_in _ ⟨by omega, by omega⟩
  obtain ⟨L, hL⟩ : ∃ L, Hid ((s c).length = L) := ⟨_, rfl⟩
  have hL5 : L ≤ 5 := by rw [← hL.out]; exact hl c hc
  clear hw hp ha hb
  go_enter Try.func19, Try.ntmps19
  go_upto_region 1 with (fail)
  revert a1 h1
  generalize World.alloc w _ = W
  generalize w.heap.size = q
  intro a1 h1
  obtain ⟨E, V, B, hh⟩ := h1
  have hE := hh.bdy.ends c hc
  obtain ⟨va, ecap, hEe⟩ := own_form hE
  have pE := (hh.blk.cell hc).1
  rw [hEe, ends_len, hL.out] at pE
  rw [hEe, ends_len, hL.out] at hE
  have h1 : Pl w0 W P s := ⟨E, V, B, hh⟩
  clear hh hEe
  have da := a1.cells
  go_wp2_with fail
  refine (PC _).mono ?_
  rintro e z ⟨rfl, rfl⟩
  go_wp2_with fail
  refine (PP _).mono ?_
  rintro e z ⟨rfl, rfl⟩
  go_wp2_with fail
  refine (PA _).mono ?_
  rintro e z ⟨rfl, rfl⟩
  go_wp2_with fail
  refine (PB _).mono ?_
  rintro e z ⟨rfl, rfl⟩
  go_wp2_with fail
  refine (PW _).mono ?_
  rintro e z ⟨rfl, rfl⟩
  clear PC PP PA PB
  by_cases h5 : L < 5
  · have h5i : (L : Int) < 5 := by omega
    go_wp2_with fail
    refine (init_any (xa : Int) (xb : Int) _).mono ?_
    rintro e z2 ⟨rfl, k2⟩
    have h2 := h1.keep k2
    clear h1 k2 pE hE
    go_wp2_with fail
    refine (putN (c := c) (n := L) ⟨1, xa, 0, xb⟩ 1 (xa : Int) 0 (xb : Int) rfl rfl rfl rfl hc hL.out.symm (by omega) _ h2).mono ?_
    rintro e z3 ⟨rfl, h3⟩
    go_wp2_with fail
    first | (go_end0; exact ⟨rfl, _, h3, kl_new hK (.inl rfl), len_new hl (by rw [hL.out]; exact h5)⟩) | exact bodyPost_ret (v := .tuple #[]) (by simp [results, Try.results19, go_sem]) rfl ⟨rfl, _, h3, kl_new hK (.inl rfl), len_new hl (by rw [hL.out]; exact h5)⟩
  · have h5i : ¬ (L : Int) < 5 := by omega
    go_wp2_with fail
    first | (go_end0; exact ⟨rfl, s, h1, hK, hl⟩) | exact bodyPost_ret (v := .tuple #[]) (by simp [results, Try.results19, go_sem]) rfl ⟨rfl, s, h1, hK, hl⟩
set_option maxHeartbeats 4000000 in
set_option maxRecDepth 100000 in
theorem does_1 (w0 : World) (P : Nat) (s : His) (x : A17) (i0 : I64 x.what) (i1 : I64 x.chain) (_i2 : I64 x.own) (i3 : I64 x.peer) (i4 : I64 x.a) (i5 : I64 x.b) (hw : pk x.what 4 = 1) (hK : KL s) (hl : ∀ c, c < 2 → (s c).length ≤ 5) (w : World) (h : Pl w0 w P s) :
    Calls Try.prog 19 #[.pointer (some ⟨P, 0, none⟩), .agg #[.int .i64 x.what, .int .i64 x.chain, .int .i64 x.own, .int .i64 x.peer, .int .i64 x.a, .int .i64 x.b]] w fun e w' => e = .returned (.tuple #[]) ∧ Did w0 w' P := by
  have n1 : New w (w.alloc (.cells #[.int .i64 x.what, .int .i64 x.chain, .int .i64 x.own, .int .i64 x.peer, .int .i64 x.a, .int .i64 x.b] 33)) := (Keeps.refl _ w).alloc _
  have a1 : aA (w.alloc (.cells #[.int .i64 x.what, .int .i64 x.chain, .int .i64 x.own, .int .i64 x.peer, .int .i64 x.a, .int .i64 x.b] 33)) w.heap.size x := heap_alloc_new w _
  have h1 := h.keep n1
  clear h n1
  have PW : ∀ w, Calls Try.prog 54 #[.int .i64 x.what, .int .i64 4] w fun e w' => e = .returned (.int .i64 1) ∧ w = w' := by
    intro w
    have := pick17p x.what 4 w i0 (by omega) (by omega)
    rw [hw] at this
    exact this
  have PC := fun w => pick17p x.chain 2 w i1 (by omega) (by omega)
  have PP := fun w => pick17p x.peer 5 w i3 (by omega) (by omega)
  have PA := fun w => pick17p x.a 2 w i4 (by omega) (by omega)
  have PB := fun w => pick17p x.b 2 w i5 (by omega) (by omega)
  have hc := pk_lt x.chain 2 (by omega)
  have hp := pk_lt x.peer 5 (by omega)
  have ha := pk_lt x.a 2 (by omega)
  have hb := pk_lt x.b 2 (by omega)
  generalize pk x.chain 2 = c at *
  generalize pk x.peer 5 = p at *
  generalize pk x.a 2 = xa at *
  generalize pk x.b 2 = xb at *
  have c0 : (0 : Int) ≤ (c : Int) := Int.natCast_nonneg _
  have c2 : (c : Int) < 2 := by omega
  obtain ⟨o, ho⟩ : ∃ o, Hid (1 - c = o) := ⟨_, rfl⟩
  have ho2 : o < 2 := by rw [← ho.out]; omega
  have eo : IntKind.i64.wrap (1 - (c : Int)) = (o : Int) := by rw [IntWalk.i64_in _ ⟨by omega, by omega⟩, ← ho.out]; omega
  have ep : IntKind.u64.wrap (p : Int) = (p : Int) := IntWalk.u64_in _ ⟨by omega, by omega⟩
  have ea : IntKind.u64.wrap (xa : Int) = (xa : Int) := IntWalk.u64_in _ ⟨by omega, by omega⟩
  have eb : IntKind.u64.wrap (xb : Int) = (xb : Int) := IntWalk.u64_in _ ⟨by omega, by omega⟩
  obtain ⟨L, hL⟩ : ∃ L, Hid ((s c).length = L) := ⟨_, rfl⟩
  have hL5 : L ≤ 5 := by rw [← hL.out]; exact hl c hc
  clear hw hp ha hb
  go_enter Try.func19, Try.ntmps19
  go_upto_region 1 with (fail)
  revert a1 h1
  generalize World.alloc w _ = W
  generalize w.heap.size = q
  intro a1 h1
  obtain ⟨E, V, B, hh⟩ := h1
  have hE := hh.bdy.ends c hc
  obtain ⟨va, ecap, hEe⟩ := own_form hE
  have pE := (hh.blk.cell hc).1
  rw [hEe, ends_len, hL.out] at pE
  rw [hEe, ends_len, hL.out] at hE
  have h1 : Pl w0 W P s := ⟨E, V, B, hh⟩
  clear hh hEe
  have da := a1.cells
  go_wp2_with fail
  refine (PC _).mono ?_
  rintro e z ⟨rfl, rfl⟩
  go_wp2_with fail
  refine (PP _).mono ?_
  rintro e z ⟨rfl, rfl⟩
  go_wp2_with fail
  refine (PA _).mono ?_
  rintro e z ⟨rfl, rfl⟩
  go_wp2_with fail
  refine (PB _).mono ?_
  rintro e z ⟨rfl, rfl⟩
  go_wp2_with fail
  refine (PW _).mono ?_
  rintro e z ⟨rfl, rfl⟩
  clear PC PP PA PB
  go_wp2_with fail
  refine (PW _).mono ?_
  rintro e z ⟨rfl, rfl⟩
  go_wp2_with fail
  refine (try_any (xa : Int) (xb : Int) (p : Int) _).mono ?_
  rintro e z2 ⟨rfl, k2⟩
  have h2 := h1.keep k2
  have k3 : New z2 ((z2.alloc (.cells #[.int .i64 2, .int .u64 (xa : Nat), .int .u64 (p : Nat), .int .u64 (xb : Nat)] 36)).alloc (.cells #[.int .i64 1, .int .u64 (xb : Nat), .int .u64 0, .int .u64 (xa : Nat)] 36)) := ((Keeps.refl _ z2).alloc _).alloc _
  have h3 := h2.keep k3
  have qE : ((z2.alloc (.cells #[.int .i64 2, .int .u64 (xa : Nat), .int .u64 (p : Nat), .int .u64 (xb : Nat)] 36)).alloc (.cells #[.int .i64 1, .int .u64 (xb : Nat), .int .u64 0, .int .u64 (xa : Nat)] 36)).heap[z2.heap.size]? = _ := (heap_alloc_old _ _ (by rw [World.size_alloc]; omega)).trans (heap_alloc_new z2 _)
  have qM : ((z2.alloc (.cells #[.int .i64 2, .int .u64 (xa : Nat), .int .u64 (p : Nat), .int .u64 (xb : Nat)] 36)).alloc (.cells #[.int .i64 1, .int .u64 (xb : Nat), .int .u64 0, .int .u64 (xa : Nat)] 36)).heap[z2.heap.size + 1]? = some (.cells #[.int .i64 1, .int .u64 (xb : Nat), .int .u64 0, .int .u64 (xa : Nat)] 36 (0, 0)) := by
    have := heap_alloc_new (z2.alloc (.cells #[.int .i64 2, .int .u64 (xa : Nat), .int .u64 (p : Nat), .int .u64 (xb : Nat)] 36)) (.cells #[.int .i64 1, .int .u64 (xb : Nat), .int .u64 0, .int .u64 (xa : Nat)] 36)
    rw [World.size_alloc] at this
    exact this
  go_upto_region 12 with (fail)
  clear h2 k3 k2 h1
  revert qE qM h3
  generalize (z2.alloc _).alloc _ = Z
  generalize z2.heap.size + 1 = QM
  generalize z2.heap.size = QE
  intro h3 qE qM
  have dE := cells4 qE
  have dM := cells4 qM
  by_cases h5 : L < 5
  · have h5i : (L : Int) < 5 := by omega
    go_wp2_with fail
    refine (stoodS (n := p) ⟨1, xb, 0, xa⟩ 1 (xb : Int) 0 (xa : Int) rfl rfl rfl rfl ho2 hK hl _ h3).mono ?_
    rintro e z5 ⟨rfl, k5⟩
    have h5' := h3.keep k5
    have dE := cells4 (k5.kept qE (fun h => h))
    have h1 := h5'
    generalize stoodB s o p ⟨1, xb, 0, xa⟩ = T at *
    rcases T with _ | _
    · go_wp2_with fail
      first | (go_end0; exact ⟨rfl, s, h1, hK, hl⟩) | exact bodyPost_ret (v := .tuple #[]) (by simp [results, Try.results19, go_sem]) rfl ⟨rfl, s, h1, hK, hl⟩
    · go_wp2_with fail
      refine (putN (c := c) (n := L) ⟨2, xa, p, xb⟩ 2 (xa : Int) (p : Int) (xb : Int) rfl rfl rfl rfl hc hL.out.symm (by omega) _ h5').mono ?_
      rintro e z6 ⟨rfl, h6⟩
      go_wp2_with fail
      first | (go_end0; exact ⟨rfl, _, h6, kl_new hK (.inr rfl), len_new hl (by rw [hL.out]; exact h5)⟩) | exact bodyPost_ret (v := .tuple #[]) (by simp [results, Try.results19, go_sem]) rfl ⟨rfl, _, h6, kl_new hK (.inr rfl), len_new hl (by rw [hL.out]; exact h5)⟩
  · have h5i : ¬ (L : Int) < 5 := by omega
    have h1 := h3
    go_wp2_with fail
    first | (go_end0; exact ⟨rfl, s, h1, hK, hl⟩) | exact bodyPost_ret (v := .tuple #[]) (by simp [results, Try.results19, go_sem]) rfl ⟨rfl, s, h1, hK, hl⟩
set_option maxHeartbeats 4000000 in
set_option maxRecDepth 100000 in
theorem does_2 (w0 : World) (P : Nat) (s : His) (x : A17) (i0 : I64 x.what) (i1 : I64 x.chain) (i2 : I64 x.own) (i3 : I64 x.peer) (i4 : I64 x.a) (i5 : I64 x.b) (hw : pk x.what 4 = 2) (hK : KL s) (hl : ∀ c, c < 2 → (s c).length ≤ 5) (w : World) (h : Pl w0 w P s) :
    Calls Try.prog 19 #[.pointer (some ⟨P, 0, none⟩), .agg #[.int .i64 x.what, .int .i64 x.chain, .int .i64 x.own, .int .i64 x.peer, .int .i64 x.a, .int .i64 x.b]] w fun e w' => e = .returned (.tuple #[]) ∧ Did w0 w' P := by
  have n1 : New w (w.alloc (.cells #[.int .i64 x.what, .int .i64 x.chain, .int .i64 x.own, .int .i64 x.peer, .int .i64 x.a, .int .i64 x.b] 33)) := (Keeps.refl _ w).alloc _
  have a1 : aA (w.alloc (.cells #[.int .i64 x.what, .int .i64 x.chain, .int .i64 x.own, .int .i64 x.peer, .int .i64 x.a, .int .i64 x.b] 33)) w.heap.size x := heap_alloc_new w _
  have h1 := h.keep n1
  clear h n1
  have PW : ∀ w, Calls Try.prog 54 #[.int .i64 x.what, .int .i64 4] w fun e w' => e = .returned (.int .i64 2) ∧ w = w' := by
    intro w
    have := pick17p x.what 4 w i0 (by omega) (by omega)
    rw [hw] at this
    exact this
  have PC := fun w => pick17p x.chain 2 w i1 (by omega) (by omega)
  have PP := fun w => pick17p x.peer 5 w i3 (by omega) (by omega)
  have PA := fun w => pick17p x.a 2 w i4 (by omega) (by omega)
  have PB := fun w => pick17p x.b 2 w i5 (by omega) (by omega)
  have hc := pk_lt x.chain 2 (by omega)
  have hp := pk_lt x.peer 5 (by omega)
  have ha := pk_lt x.a 2 (by omega)
  have hb := pk_lt x.b 2 (by omega)
  generalize pk x.chain 2 = c at *
  generalize pk x.peer 5 = p at *
  generalize pk x.a 2 = xa at *
  generalize pk x.b 2 = xb at *
  have c0 : (0 : Int) ≤ (c : Int) := Int.natCast_nonneg _
  have c2 : (c : Int) < 2 := by omega
  obtain ⟨o, ho⟩ : ∃ o, Hid (1 - c = o) := ⟨_, rfl⟩
  have ho2 : o < 2 := by rw [← ho.out]; omega
  have eo : IntKind.i64.wrap (1 - (c : Int)) = (o : Int) := by rw [IntWalk.i64_in _ ⟨by omega, by omega⟩, ← ho.out]; omega
  have ep : IntKind.u64.wrap (p : Int) = (p : Int) := IntWalk.u64_in _ ⟨by omega, by omega⟩
  have ea : IntKind.u64.wrap (xa : Int) = (xa : Int) := IntWalk.u64_in _ ⟨by omega, by omega⟩
  have eb : IntKind.u64.wrap (xb : Int) = (xb : Int) := IntWalk.u64_in _ ⟨by omega, by omega⟩
  obtain ⟨L, hL⟩ : ∃ L, Hid ((s c).length = L) := ⟨_, rfl⟩
  have hL5 : L ≤ 5 := by rw [← hL.out]; exact hl c hc
  clear hw hp ha hb
  go_enter Try.func19, Try.ntmps19
  go_upto_region 1 with (fail)
  revert a1 h1
  generalize World.alloc w _ = W
  generalize w.heap.size = q
  intro a1 h1
  obtain ⟨E, V, B, hh⟩ := h1
  have hE := hh.bdy.ends c hc
  obtain ⟨va, ecap, hEe⟩ := own_form hE
  have pE := (hh.blk.cell hc).1
  rw [hEe, ends_len, hL.out] at pE
  rw [hEe, ends_len, hL.out] at hE
  have h1 : Pl w0 W P s := ⟨E, V, B, hh⟩
  clear hh hEe
  have da := a1.cells
  go_wp2_with fail
  refine (PC _).mono ?_
  rintro e z ⟨rfl, rfl⟩
  go_wp2_with fail
  refine (PP _).mono ?_
  rintro e z ⟨rfl, rfl⟩
  go_wp2_with fail
  refine (PA _).mono ?_
  rintro e z ⟨rfl, rfl⟩
  go_wp2_with fail
  refine (PB _).mono ?_
  rintro e z ⟨rfl, rfl⟩
  go_wp2_with fail
  refine (PW _).mono ?_
  rintro e z ⟨rfl, rfl⟩
  clear PC PP PA PB
  go_wp2_with fail
  refine (PW _).mono ?_
  rintro e z ⟨rfl, rfl⟩
  by_cases hL0 : L = 0
  · have e0 : ((L : Int) == 0) = true := by simp [hL0]
    go_wp2_with fail
    first | (go_end0; exact ⟨rfl, s, h1, hK, hl⟩) | exact bodyPost_ret (v := .tuple #[]) (by simp [results, Try.results19, go_sem]) rfl ⟨rfl, s, h1, hK, hl⟩
  · have e0 : ((L : Int) == 0) = false := by simp [hL0]
    have PO := fun w => pick17p x.own L w i2 (by omega) (by omega)
    have hm := pk_lt x.own L (by omega)
    generalize pk x.own L = m at *
    obtain ⟨k, hk⟩ : ∃ k, (s c)[m]? = some k := ⟨_, List.getElem?_eq_getElem (by rw [hL.out]; exact hm)⟩
    obtain ⟨l, hlk⟩ : ∃ l, Hid (lastL k = l) := ⟨_, rfl⟩
    have hk2 := ends_at hk
    rw [hlk.out] at hk2
    obtain ⟨ge, ecap2, e1, -, -⟩ := own_some hE (by omega)
    cases e1
    obtain ⟨d0, d1, d2, d3⟩ := link_at hE hk2
    have m0 : (0 : Int) ≤ (m : Int) := Int.natCast_nonneg _
    have mL : (m : Int) < (L : Int) := by omega
    have em : IntKind.u64.wrap (m : Int) = (m : Int) := IntWalk.u64_in _ ⟨by omega, by omega⟩
    clear hk2 hE
    go_wp2_with fail
    refine (PO _).mono ?_
    rintro e z ⟨rfl, rfl⟩
    clear PO
    have ka : New W (W.alloc (.cells #[.int .i64 (l.st : Nat), .int .u64 (l.cl : Nat), .int .u64 (l.pe : Nat), .int .u64 (l.pc : Nat)] 36)) := (Keeps.refl _ W).alloc _
    have qa : lk (W.alloc (.cells #[.int .i64 (l.st : Nat), .int .u64 (l.cl : Nat), .int .u64 (l.pe : Nat), .int .u64 (l.pc : Nat)] 36)) W.heap.size l := heap_alloc_new W _
    have ha := h1.keep ka
    have aa : aA _ q x := ka.kept a1 (fun h => h)
    go_upto_region 17 with (fail)
    clear h1 ka a1 da d0 d1 d2 d3 pE
    revert qa ha aa
    generalize W.alloc _ = Wa
    generalize W.heap.size = Ql
    intro qa h1 a1
    have da := a1.cells
    have dl := qa.cells
    go_wp2_with fail
    refine (PW _).mono ?_
    rintro e z ⟨rfl, rfl⟩
    by_cases hs : l.st = 1
    · have hst : (l.st : Int) = 1 := by omega
      rw [hst] at dl
      obtain ⟨hk3, -⟩ := good_one (hK c m k hc hk) (by rw [hlk.out, hs]; decide)
      rw [hlk.out] at hk3
      rw [hk3] at hk
      go_wp2_with fail
      refine (ack_ok (m : Int) (l.cl : Int) (l.pe : Int) (l.pc : Int) (p : Int) _).mono ?_
      rintro e z2 ⟨rfl, k2⟩
      have h2 := h1.keep k2
      have ql2 := qa.keep k2
      have k3 : New z2 ((z2.alloc (.cells #[.int .i64 3, .int .u64 (l.cl : Nat), .int .u64 (p : Nat), .int .u64 (l.pc : Nat)] 36)).alloc (.cells #[.int .i64 2, .int .u64 (l.pc : Nat), .int .u64 (m : Nat), .int .u64 (l.cl : Nat)] 36)) := ((Keeps.refl _ z2).alloc _).alloc _
      have h3 := h2.keep k3
      have qE : ((z2.alloc (.cells #[.int .i64 3, .int .u64 (l.cl : Nat), .int .u64 (p : Nat), .int .u64 (l.pc : Nat)] 36)).alloc (.cells #[.int .i64 2, .int .u64 (l.pc : Nat), .int .u64 (m : Nat), .int .u64 (l.cl : Nat)] 36)).heap[z2.heap.size]? = _ := (heap_alloc_old _ _ (by rw [World.size_alloc]; omega)).trans (heap_alloc_new z2 _)
      have qM : ((z2.alloc (.cells #[.int .i64 3, .int .u64 (l.cl : Nat), .int .u64 (p : Nat), .int .u64 (l.pc : Nat)] 36)).alloc (.cells #[.int .i64 2, .int .u64 (l.pc : Nat), .int .u64 (m : Nat), .int .u64 (l.cl : Nat)] 36)).heap[z2.heap.size + 1]? = some (.cells #[.int .i64 2, .int .u64 (l.pc : Nat), .int .u64 (m : Nat), .int .u64 (l.cl : Nat)] 36 (0, 0)) := by
        have := heap_alloc_new (z2.alloc (.cells #[.int .i64 3, .int .u64 (l.cl : Nat), .int .u64 (p : Nat), .int .u64 (l.pc : Nat)] 36)) (.cells #[.int .i64 2, .int .u64 (l.pc : Nat), .int .u64 (m : Nat), .int .u64 (l.cl : Nat)] 36)
        rw [World.size_alloc] at this
        exact this
      have ql3 := ql2.keep k3
      go_upto_region 19 with (fail)
      clear h2 k3 k2 h1
      clear ql2 qa dl da a1
      revert qE qM h3 ql3
      generalize (z2.alloc _).alloc _ = Z
      generalize z2.heap.size + 1 = QM
      generalize z2.heap.size = QE
      intro h3 qE qM ql3
      have dE := cells4 qE
      have dM := cells4 qM
      have dl := ql3.cells
      go_wp2_with fail
      refine (stoodS (o := o) (n := p) ⟨2, l.pc, m, l.cl⟩ 2 (l.pc : Int) (m : Int) (l.cl : Int) rfl rfl rfl rfl ho2 hK hl _ h3).mono ?_
      rintro e z5 ⟨rfl, k5⟩
      have h5' := h3.keep k5
      have dE := cells4 (k5.kept qE (fun h => h))
      have h1 := h5'
      rcases hT : stoodB s o p ⟨2, l.pc, m, l.cl⟩ with _ | _
      · go_wp2_with fail
        first | (go_end0; exact ⟨rfl, s, h1, hK, hl⟩) | exact bodyPost_ret (v := .tuple #[]) (by simp [results, Try.results19, go_sem]) rfl ⟨rfl, s, h1, hK, hl⟩
      · have hS := stoodB_iff.1 hT
        rw [← ho.out] at hS
        go_wp2_with fail
        refine (putS (c := c) (n := m) (a := l) ⟨3, l.cl, p, l.pc⟩ 3 (l.cl : Int) (p : Int) (l.pc : Int) rfl rfl rfl rfl hc hk (by rw [hL.out]; omega) _ h5').mono ?_
        rintro e z6 ⟨rfl, h6⟩
        go_wp2_with fail
        first | (go_end0; exact ⟨rfl, _, h6, kl_turn hK hc hk (.inl hs) (by omega : 2 ≤ 2) hS, len_set hc hl⟩) | exact bodyPost_ret (v := .tuple #[]) (by simp [results, Try.results19, go_sem]) rfl ⟨rfl, _, h6, kl_turn hK hc hk (.inl hs) (by omega : 2 ≤ 2) hS, len_set hc hl⟩
    · have hst : ((l.st : Int) == 1) = false := by simp; omega
      go_wp2_with fail
      refine (ack_no (m : Int) (l.st : Int) (l.cl : Int) (l.pe : Int) (l.pc : Int) (p : Int) hst _).mono ?_
      rintro e z2 ⟨rfl, k2⟩
      have h1 := h1.keep k2
      have k3 : New z2 ((z2.alloc (.cells #[.int .i64 0, .int .u64 0, .int .u64 0, .int .u64 0] 36)).alloc (.cells #[.int .i64 0, .int .u64 0, .int .u64 0, .int .u64 0] 36)) := ((Keeps.refl _ z2).alloc _).alloc _
      have h1 := h1.keep k3
      go_upto_region 19 with (fail)
      revert h1
      generalize (z2.alloc _).alloc _ = Z
      intro h1
      go_wp2_with fail
      first | (go_end0; exact ⟨rfl, s, h1, hK, hl⟩) | exact bodyPost_ret (v := .tuple #[]) (by simp [results, Try.results19, go_sem]) rfl ⟨rfl, s, h1, hK, hl⟩
set_option maxHeartbeats 4000000 in
set_option maxRecDepth 100000 in
theorem does_3 (w0 : World) (P : Nat) (s : His) (x : A17) (i0 : I64 x.what) (i1 : I64 x.chain) (i2 : I64 x.own) (i3 : I64 x.peer) (i4 : I64 x.a) (i5 : I64 x.b) (hw : pk x.what 4 = 3) (hK : KL s) (hl : ∀ c, c < 2 → (s c).length ≤ 5) (w : World) (h : Pl w0 w P s) :
    Calls Try.prog 19 #[.pointer (some ⟨P, 0, none⟩), .agg #[.int .i64 x.what, .int .i64 x.chain, .int .i64 x.own, .int .i64 x.peer, .int .i64 x.a, .int .i64 x.b]] w fun e w' => e = .returned (.tuple #[]) ∧ Did w0 w' P := by
  have n1 : New w (w.alloc (.cells #[.int .i64 x.what, .int .i64 x.chain, .int .i64 x.own, .int .i64 x.peer, .int .i64 x.a, .int .i64 x.b] 33)) := (Keeps.refl _ w).alloc _
  have a1 : aA (w.alloc (.cells #[.int .i64 x.what, .int .i64 x.chain, .int .i64 x.own, .int .i64 x.peer, .int .i64 x.a, .int .i64 x.b] 33)) w.heap.size x := heap_alloc_new w _
  have h1 := h.keep n1
  clear h n1
  have PW : ∀ w, Calls Try.prog 54 #[.int .i64 x.what, .int .i64 4] w fun e w' => e = .returned (.int .i64 3) ∧ w = w' := by
    intro w
    have := pick17p x.what 4 w i0 (by omega) (by omega)
    rw [hw] at this
    exact this
  have PC := fun w => pick17p x.chain 2 w i1 (by omega) (by omega)
  have PP := fun w => pick17p x.peer 5 w i3 (by omega) (by omega)
  have PA := fun w => pick17p x.a 2 w i4 (by omega) (by omega)
  have PB := fun w => pick17p x.b 2 w i5 (by omega) (by omega)
  have hc := pk_lt x.chain 2 (by omega)
  have hp := pk_lt x.peer 5 (by omega)
  have ha := pk_lt x.a 2 (by omega)
  have hb := pk_lt x.b 2 (by omega)
  generalize pk x.chain 2 = c at *
  generalize pk x.peer 5 = p at *
  generalize pk x.a 2 = xa at *
  generalize pk x.b 2 = xb at *
  have c0 : (0 : Int) ≤ (c : Int) := Int.natCast_nonneg _
  have c2 : (c : Int) < 2 := by omega
  obtain ⟨o, ho⟩ : ∃ o, Hid (1 - c = o) := ⟨_, rfl⟩
  have ho2 : o < 2 := by rw [← ho.out]; omega
  have eo : IntKind.i64.wrap (1 - (c : Int)) = (o : Int) := by rw [IntWalk.i64_in _ ⟨by omega, by omega⟩, ← ho.out]; omega
  have ep : IntKind.u64.wrap (p : Int) = (p : Int) := IntWalk.u64_in _ ⟨by omega, by omega⟩
  have ea : IntKind.u64.wrap (xa : Int) = (xa : Int) := IntWalk.u64_in _ ⟨by omega, by omega⟩
  have eb : IntKind.u64.wrap (xb : Int) = (xb : Int) := IntWalk.u64_in _ ⟨by omega, by omega⟩
  obtain ⟨L, hL⟩ : ∃ L, Hid ((s c).length = L) := ⟨_, rfl⟩
  have hL5 : L ≤ 5 := by rw [← hL.out]; exact hl c hc
  clear hw hp ha hb
  go_enter Try.func19, Try.ntmps19
  go_upto_region 1 with (fail)
  revert a1 h1
  generalize World.alloc w _ = W
  generalize w.heap.size = q
  intro a1 h1
  obtain ⟨E, V, B, hh⟩ := h1
  have hE := hh.bdy.ends c hc
  obtain ⟨va, ecap, hEe⟩ := own_form hE
  have pE := (hh.blk.cell hc).1
  rw [hEe, ends_len, hL.out] at pE
  rw [hEe, ends_len, hL.out] at hE
  have h1 : Pl w0 W P s := ⟨E, V, B, hh⟩
  clear hh hEe
  have da := a1.cells
  go_wp2_with fail
  refine (PC _).mono ?_
  rintro e z ⟨rfl, rfl⟩
  go_wp2_with fail
  refine (PP _).mono ?_
  rintro e z ⟨rfl, rfl⟩
  go_wp2_with fail
  refine (PA _).mono ?_
  rintro e z ⟨rfl, rfl⟩
  go_wp2_with fail
  refine (PB _).mono ?_
  rintro e z ⟨rfl, rfl⟩
  go_wp2_with fail
  refine (PW _).mono ?_
  rintro e z ⟨rfl, rfl⟩
  clear PC PP PA PB
  go_wp2_with fail
  refine (PW _).mono ?_
  rintro e z ⟨rfl, rfl⟩
  by_cases hL0 : L = 0
  · have e0 : ((L : Int) == 0) = true := by simp [hL0]
    go_wp2_with fail
    first | (go_end0; exact ⟨rfl, s, h1, hK, hl⟩) | exact bodyPost_ret (v := .tuple #[]) (by simp [results, Try.results19, go_sem]) rfl ⟨rfl, s, h1, hK, hl⟩
  · have e0 : ((L : Int) == 0) = false := by simp [hL0]
    have PO := fun w => pick17p x.own L w i2 (by omega) (by omega)
    have hm := pk_lt x.own L (by omega)
    generalize pk x.own L = m at *
    obtain ⟨k, hk⟩ : ∃ k, (s c)[m]? = some k := ⟨_, List.getElem?_eq_getElem (by rw [hL.out]; exact hm)⟩
    obtain ⟨l, hlk⟩ : ∃ l, Hid (lastL k = l) := ⟨_, rfl⟩
    have hk2 := ends_at hk
    rw [hlk.out] at hk2
    obtain ⟨ge, ecap2, e1, -, -⟩ := own_some hE (by omega)
    cases e1
    obtain ⟨d0, d1, d2, d3⟩ := link_at hE hk2
    have m0 : (0 : Int) ≤ (m : Int) := Int.natCast_nonneg _
    have mL : (m : Int) < (L : Int) := by omega
    have em : IntKind.u64.wrap (m : Int) = (m : Int) := IntWalk.u64_in _ ⟨by omega, by omega⟩
    clear hk2 hE
    go_wp2_with fail
    refine (PO _).mono ?_
    rintro e z ⟨rfl, rfl⟩
    clear PO
    have ka : New W (W.alloc (.cells #[.int .i64 (l.st : Nat), .int .u64 (l.cl : Nat), .int .u64 (l.pe : Nat), .int .u64 (l.pc : Nat)] 36)) := (Keeps.refl _ W).alloc _
    have qa : lk (W.alloc (.cells #[.int .i64 (l.st : Nat), .int .u64 (l.cl : Nat), .int .u64 (l.pe : Nat), .int .u64 (l.pc : Nat)] 36)) W.heap.size l := heap_alloc_new W _
    have ha := h1.keep ka
    have aa : aA _ q x := ka.kept a1 (fun h => h)
    go_upto_region 17 with (fail)
    clear h1 ka a1 da d0 d1 d2 d3 pE
    revert qa ha aa
    generalize W.alloc _ = Wa
    generalize W.heap.size = Ql
    intro qa h1 a1
    have da := a1.cells
    have dl := qa.cells
    go_wp2_with fail
    refine (PW _).mono ?_
    rintro e z ⟨rfl, rfl⟩
    by_cases hs : l.st = 2
    · have hst : (l.st : Int) = 2 := by omega
      rw [hst] at dl
      obtain ⟨hk3, -⟩ := good_one (hK c m k hc hk) (by rw [hlk.out, hs]; decide)
      rw [hlk.out] at hk3
      rw [hk3] at hk
      go_wp2_with fail
      refine (confirm_ok (m : Int) (l.cl : Int) (l.pe : Int) (l.pc : Int) _).mono ?_
      rintro e z2 ⟨rfl, k2⟩
      have h2 := h1.keep k2
      have ql2 := qa.keep k2
      have k3 : New z2 ((z2.alloc (.cells #[.int .i64 3, .int .u64 (l.cl : Nat), .int .u64 (l.pe : Nat), .int .u64 (l.pc : Nat)] 36)).alloc (.cells #[.int .i64 3, .int .u64 (l.pc : Nat), .int .u64 (m : Nat), .int .u64 (l.cl : Nat)] 36)) := ((Keeps.refl _ z2).alloc _).alloc _
      have h3 := h2.keep k3
      have qE : ((z2.alloc (.cells #[.int .i64 3, .int .u64 (l.cl : Nat), .int .u64 (l.pe : Nat), .int .u64 (l.pc : Nat)] 36)).alloc (.cells #[.int .i64 3, .int .u64 (l.pc : Nat), .int .u64 (m : Nat), .int .u64 (l.cl : Nat)] 36)).heap[z2.heap.size]? = _ := (heap_alloc_old _ _ (by rw [World.size_alloc]; omega)).trans (heap_alloc_new z2 _)
      have qM : ((z2.alloc (.cells #[.int .i64 3, .int .u64 (l.cl : Nat), .int .u64 (l.pe : Nat), .int .u64 (l.pc : Nat)] 36)).alloc (.cells #[.int .i64 3, .int .u64 (l.pc : Nat), .int .u64 (m : Nat), .int .u64 (l.cl : Nat)] 36)).heap[z2.heap.size + 1]? = some (.cells #[.int .i64 3, .int .u64 (l.pc : Nat), .int .u64 (m : Nat), .int .u64 (l.cl : Nat)] 36 (0, 0)) := by
        have := heap_alloc_new (z2.alloc (.cells #[.int .i64 3, .int .u64 (l.cl : Nat), .int .u64 (l.pe : Nat), .int .u64 (l.pc : Nat)] 36)) (.cells #[.int .i64 3, .int .u64 (l.pc : Nat), .int .u64 (m : Nat), .int .u64 (l.cl : Nat)] 36)
        rw [World.size_alloc] at this
        exact this
      have ql3 := ql2.keep k3
      go_upto_region 22 with (fail)
      clear h2 k3 k2 h1
      clear ql2 qa dl da a1
      revert qE qM h3 ql3
      generalize (z2.alloc _).alloc _ = Z
      generalize z2.heap.size + 1 = QM
      generalize z2.heap.size = QE
      intro h3 qE qM ql3
      have dE := cells4 qE
      have dM := cells4 qM
      have dl := ql3.cells
      go_wp2_with fail
      refine (stoodS (o := o) (n := l.pe) ⟨3, l.pc, m, l.cl⟩ 3 (l.pc : Int) (m : Int) (l.cl : Int) rfl rfl rfl rfl ho2 hK hl _ h3).mono ?_
      rintro e z5 ⟨rfl, k5⟩
      have h5' := h3.keep k5
      have dE := cells4 (k5.kept qE (fun h => h))
      have h1 := h5'
      rcases hT : stoodB s o l.pe ⟨3, l.pc, m, l.cl⟩ with _ | _
      · go_wp2_with fail
        first | (go_end0; exact ⟨rfl, s, h1, hK, hl⟩) | exact bodyPost_ret (v := .tuple #[]) (by simp [results, Try.results19, go_sem]) rfl ⟨rfl, s, h1, hK, hl⟩
      · have hS := stoodB_iff.1 hT
        rw [← ho.out] at hS
        go_wp2_with fail
        refine (putS (c := c) (n := m) (a := l) ⟨3, l.cl, l.pe, l.pc⟩ 3 (l.cl : Int) (l.pe : Int) (l.pc : Int) rfl rfl rfl rfl hc hk (by rw [hL.out]; omega) _ h5').mono ?_
        rintro e z6 ⟨rfl, h6⟩
        go_wp2_with fail
        first | (go_end0; exact ⟨rfl, _, h6, kl_turn hK hc hk (.inr ⟨hs, rfl⟩) (by omega : 2 ≤ 3) hS, len_set hc hl⟩) | exact bodyPost_ret (v := .tuple #[]) (by simp [results, Try.results19, go_sem]) rfl ⟨rfl, _, h6, kl_turn hK hc hk (.inr ⟨hs, rfl⟩) (by omega : 2 ≤ 3) hS, len_set hc hl⟩
    · have hst : ((l.st : Int) == 2) = false := by simp; omega
      go_wp2_with fail
      refine (confirm_no (m : Int) (l.st : Int) (l.cl : Int) (l.pe : Int) (l.pc : Int) hst _).mono ?_
      rintro e z2 ⟨rfl, k2⟩
      have h1 := h1.keep k2
      have k3 : New z2 ((z2.alloc (.cells #[.int .i64 0, .int .u64 0, .int .u64 0, .int .u64 0] 36)).alloc (.cells #[.int .i64 0, .int .u64 0, .int .u64 0, .int .u64 0] 36)) := ((Keeps.refl _ z2).alloc _).alloc _
      have h1 := h1.keep k3
      go_upto_region 22 with (fail)
      revert h1
      generalize (z2.alloc _).alloc _ = Z
      intro h1
      go_wp2_with fail
      first | (go_end0; exact ⟨rfl, s, h1, hK, hl⟩) | exact bodyPost_ret (v := .tuple #[]) (by simp [results, Try.results19, go_sem]) rfl ⟨rfl, s, h1, hK, hl⟩
theorem does_any (w0 : World) (P : Nat) (s : His) (x : A17) (i0 : I64 x.what) (i1 : I64 x.chain) (i2 : I64 x.own) (i3 : I64 x.peer) (i4 : I64 x.a) (i5 : I64 x.b) (hK : KL s) (hl : ∀ c, c < 2 → (s c).length ≤ 5) (w : World) (h : Pl w0 w P s) :
    Calls Try.prog 19 #[.pointer (some ⟨P, 0, none⟩), .agg #[.int .i64 x.what, .int .i64 x.chain, .int .i64 x.own, .int .i64 x.peer, .int .i64 x.a, .int .i64 x.b]] w fun e w' => e = .returned (.tuple #[]) ∧ Did w0 w' P := by
  have hk := pk_lt x.what 4 (by omega)
  rcases (by omega : pk x.what 4 = 0 ∨ pk x.what 4 = 1 ∨ pk x.what 4 = 2 ∨ pk x.what 4 = 3) with e | e | e | e
  · exact does_0 w0 P s x i0 i1 i2 i3 i4 i5 e hK hl w h
  · exact does_1 w0 P s x i0 i1 i2 i3 i4 i5 e hK hl w h
  · exact does_2 w0 P s x i0 i1 i2 i3 i4 i5 e hK hl w h
  · exact does_3 w0 P s x i0 i1 i2 i3 i4 i5 e hK hl w h
end Go.Proofs.Ytclldibadmnppaa
