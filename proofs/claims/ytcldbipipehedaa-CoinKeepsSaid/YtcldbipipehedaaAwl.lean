/-
  One bank, and two, of the call's own; voussoirlaw19.awake.
-/
import Derived.Test.YtcldbipipehedaaAwk
namespace Go.Proofs.Ytcldbipipehedaa
open Go.RowKit Go.ChangeMaps

/-- a bank made since w0 -/
def Sg (w0 w : World) (a n : Nat) (s : BkS) : Prop :=
  ∃ ma sa, Bk w a ma sa n s ∧ New w0 w ∧ (w0.heap.size ≤ a ∧ w0.heap.size ≤ ma ∧ w0.heap.size ≤ sa)
theorem Sg.new {w0 w : World} {a n : Nat} {s : BkS} (h : Sg w0 w a n s) : New w0 w := by obtain ⟨ma, sa, _, k, _⟩ := h; exact k
theorem Sg.keep {w0 w w' : World} {a n : Nat} {s : BkS} (h : Sg w0 w a n s) (k : New w w') : Sg w0 w' a n s := by
  obtain ⟨ma, sa, h1, h2, h3⟩ := h
  exact ⟨ma, sa, h1.keep k, h2.then k (fun _ h => h.elim), h3⟩
theorem Sg.drew {w0 w : World} {a n : Nat} {s : BkS} (h : Sg w0 w a n s) : Sg w0 w.drew a n s := by
  obtain ⟨ma, sa, h1, h2, h3⟩ := h
  exact ⟨ma, sa, h1.drew, h2.drew, h3⟩
theorem Sg.mono {w0 w : World} {a n m : Nat} {s : BkS} (h : Sg w0 w a n s) (hm : n ≤ m) : Sg w0 w a m s := by
  obtain ⟨ma, sa, h1, h2, h3⟩ := h
  exact ⟨ma, sa, h1.mono hm, h2, h3⟩
theorem two_new {w0 w w' : World} {ma sa : Nat} (h : New w0 w) (hm : w0.heap.size ≤ ma) (hs : w0.heap.size ≤ sa) (k : Keeps (Two ma sa) w w') : New w0 w' := by
  refine h.then k ?_
  rintro j (rfl | rfl)
  · exact .inr hm
  · exact .inr hs
/-- all blocks of cells are as they were -/
def KC (w w' : World) : Prop := ∀ (q : Nat) (c : Array Value) (T : TypeId) (g : Nat × Nat), w.heap[q]? = some (.cells c T g) → w'.heap[q]? = some (.cells c T g)
theorem KC.of_new {w w' : World} (k : New w w') : KC w w' := fun _ _ _ _ h => k.kept h (fun h => h)
theorem KC.trans {a b c : World} (h : KC a b) (k : KC b c) : KC a c := fun q x T g e => k q x T g (h q x T g e)
theorem KC.drew {a b : World} (h : KC a b) : KC a b.drew := h
theorem KC.of_bk {w w' : World} {b ma sa n : Nat} {s : BkS} (h : Bk w b ma sa n s) (k : Keeps (Two ma sa) w w') : KC w w' := fun _ _ _ _ e => k.kept e (h.not_two e)
theorem cn.kc {w w' : World} {q : Nat} {c : Co} (h : cn w q c) (k : KC w w') : cn w' q c := k _ _ _ _ h
/-- whatever is done with the bank -/
theorem Sg.act {w0 w : World} {a n : Nat} {s : BkS} (h : Sg w0 w a n s) {f : FuncId} {args : Array Value} {v : Value} {s' : BkS}
    (H : ∀ ma sa, Bk w a ma sa n s → Calls Try.prog f args w fun e w' => e = .returned v ∧ Bk w' a ma sa (n + 2) s' ∧ Keeps (Two ma sa) w w') :
    Calls Try.prog f args w fun e w' => e = .returned v ∧ Sg w0 w' a (n + 2) s' ∧ KC w w' := by
  obtain ⟨ma, sa, h1, h2, h3, h4, h5⟩ := h
  exact (H ma sa h1).mono fun _ _ ⟨he, hb, k⟩ => ⟨he, ⟨ma, sa, hb, two_new h2 h4 h5 k, h3, h4, h5⟩, KC.of_bk h1 k⟩
theorem sgNew {w0 w : World} (n0 : New w0 w) :
    Calls Try.prog 19 #[] w fun e w' => ∃ a, e = .returned (.pointer (some ⟨a, 0, none⟩)) ∧ Sg w0 w' a 0 emptyB :=
  (newB_any w).mono fun _ _ ⟨he, hb, k⟩ => ⟨_, he, _, _, hb, n0.then k (fun _ h => h.elim), by have := n0.size; omega, n0.size, by have := n0.size; omega⟩
theorem Sg.bal {w0 w : World} {b n : Nat} {s : BkS} (h : Sg w0 w b n s) (d a : List UInt8) (hd : d.length ≤ 9223372036854775807) (ha : a.length ≤ 9223372036854775807) :
    Calls Try.prog 34 #[.pointer (some ⟨b, 0, none⟩), .string ⟨a.toArray⟩, .string ⟨d.toArray⟩] w fun e w' => e = .returned (.int .u64 (s.bal d a)) ∧ w = w' := by
  obtain ⟨ma, sa, h1, _⟩ := h
  exact bal_any b ma sa n s d a hd ha w h1
theorem Sg.sup {w0 w : World} {b n : Nat} {s : BkS} (h : Sg w0 w b n s) (d : List UInt8) (hd : d.length ≤ 9223372036854775807) :
    Calls Try.prog 32 #[.pointer (some ⟨b, 0, none⟩), .string ⟨d.toArray⟩] w fun e w' => e = .returned (.int .u64 (s.sup d)) ∧ w = w' := by
  obtain ⟨ma, sa, h1, _⟩ := h
  exact sup_any b ma sa n s d hd w h1

/-- two banks made since w0, apart -/
def Pr (w0 w : World) (a b n : Nat) (s t : BkS) : Prop :=
  ∃ ma sa mb sb, Bk w a ma sa n s ∧ Bk w b mb sb n t ∧ New w0 w ∧ (w0.heap.size ≤ a ∧ w0.heap.size ≤ ma ∧ w0.heap.size ≤ sa) ∧ (w0.heap.size ≤ b ∧ w0.heap.size ≤ mb ∧ w0.heap.size ≤ sb) ∧
    ((ma ≠ b ∧ ma ≠ mb ∧ ma ≠ sb) ∧ (sa ≠ b ∧ sa ≠ mb ∧ sa ≠ sb) ∧ a ≠ mb ∧ a ≠ sb)
theorem Pr.new {w0 w : World} {a b n : Nat} {s t : BkS} (h : Pr w0 w a b n s t) : New w0 w := by obtain ⟨_, _, _, _, _, _, k, _⟩ := h; exact k
theorem Pr.keep {w0 w w' : World} {a b n : Nat} {s t : BkS} (h : Pr w0 w a b n s t) (k : New w w') : Pr w0 w' a b n s t := by
  obtain ⟨ma, sa, mb, sb, h1, h2, h3, h4⟩ := h
  exact ⟨ma, sa, mb, sb, h1.keep k, h2.keep k, h3.then k (fun _ h => h.elim), h4⟩
theorem Pr.drew {w0 w : World} {a b n : Nat} {s t : BkS} (h : Pr w0 w a b n s t) : Pr w0 w.drew a b n s t := by
  obtain ⟨ma, sa, mb, sb, h1, h2, h3, h4⟩ := h
  exact ⟨ma, sa, mb, sb, h1.drew, h2.drew, h3.drew, h4⟩
theorem Pr.mono {w0 w : World} {a b n m : Nat} {s t : BkS} (h : Pr w0 w a b n s t) (hm : n ≤ m) : Pr w0 w a b m s t := by
  obtain ⟨ma, sa, mb, sb, h1, h2, h3⟩ := h
  exact ⟨ma, sa, mb, sb, h1.mono hm, h2.mono hm, h3⟩
theorem Pr.fst {w0 w : World} {a b n : Nat} {s t : BkS} (h : Pr w0 w a b n s t) : Sg w0 w a n s := by
  obtain ⟨ma, sa, mb, sb, h1, h2, h3, h4, h5, h6⟩ := h
  exact ⟨ma, sa, h1, h3, h4⟩
theorem Pr.snd {w0 w : World} {a b n : Nat} {s t : BkS} (h : Pr w0 w a b n s t) : Sg w0 w b n t := by
  obtain ⟨ma, sa, mb, sb, h1, h2, h3, h4, h5, h6⟩ := h
  exact ⟨mb, sb, h2, h3, h5⟩
theorem Pr.swap {w0 w : World} {a b n : Nat} {s t : BkS} (h : Pr w0 w a b n s t) : Pr w0 w b a n t s := by
  obtain ⟨ma, sa, mb, sb, h1, h2, h3, h4, h5, ⟨c1, c2, c3⟩, ⟨c4, c5, c6⟩, c7, c8⟩ := h
  exact ⟨mb, sb, ma, sa, h2, h1, h3, h5, h4, ⟨c7.symm, c2.symm, c5.symm⟩, ⟨c8.symm, c3.symm, c6.symm⟩, c1.symm, c4.symm⟩
theorem Pr.actA {w0 w : World} {a b n : Nat} {s t : BkS} (h : Pr w0 w a b n s t) {f : FuncId} {args : Array Value} {v : Value} {s' : BkS}
    (H : ∀ ma sa, Bk w a ma sa n s → Calls Try.prog f args w fun e w' => e = .returned v ∧ Bk w' a ma sa (n + 2) s' ∧ Keeps (Two ma sa) w w') :
    Calls Try.prog f args w fun e w' => e = .returned v ∧ Pr w0 w' a b (n + 2) s' t ∧ KC w w' := by
  obtain ⟨ma, sa, mb, sb, h1, h2, h3, h4, h5, ⟨c1, c2, c3⟩, ⟨c4, c5, c6⟩, c7, c8⟩ := h
  refine (H ma sa h1).mono fun _ _ ⟨he, hb, k⟩ => ⟨he, ⟨ma, sa, mb, sb, hb, (h2.keepS k ?_ ?_ ?_).mono (by omega), two_new h3 h4.2.1 h4.2.2 k, h4, h5, ⟨c1, c2, c3⟩, ⟨c4, c5, c6⟩, c7, c8⟩, KC.of_bk h1 k⟩
  · rintro (e | e)
    · exact c1 e.symm
    · exact c4 e.symm
  · rintro (e | e)
    · exact c2 e.symm
    · exact c5 e.symm
  · rintro (e | e)
    · exact c3 e.symm
    · exact c6 e.symm
theorem Pr.actB {w0 w : World} {a b n : Nat} {s t : BkS} (h : Pr w0 w a b n s t) {f : FuncId} {args : Array Value} {v : Value} {t' : BkS}
    (H : ∀ mb sb, Bk w b mb sb n t → Calls Try.prog f args w fun e w' => e = .returned v ∧ Bk w' b mb sb (n + 2) t' ∧ Keeps (Two mb sb) w w') :
    Calls Try.prog f args w fun e w' => e = .returned v ∧ Pr w0 w' a b (n + 2) s t' ∧ KC w w' :=
  (h.swap.actA H).mono fun _ _ ⟨he, hp, hk⟩ => ⟨he, hp.swap, hk⟩
theorem prNew {w0 w : World} {a : Nat} {s : BkS} (h : Sg w0 w a 0 s) :
    Calls Try.prog 19 #[] w fun e w' => ∃ b, e = .returned (.pointer (some ⟨b, 0, none⟩)) ∧ Pr w0 w' a b 0 s emptyB := by
  obtain ⟨ma, sa, h1, h2, h3, h4, h5⟩ := h
  refine (newB_any w).mono fun _ _ ⟨he, hb, k⟩ => ?_
  have a1 := (Array.getElem?_eq_some_iff.1 h1.blk).1
  have a2 := h1.mp.lt
  have a3 := h1.su.lt
  have sz := h2.size
  exact ⟨_, he, ma, sa, _, _, h1.keep k, hb, h2.then k (fun _ h => h.elim), ⟨h3, h4, h5⟩, ⟨by omega, sz, by omega⟩, ⟨by omega, by omega, by omega⟩, ⟨by omega, by omega, by omega⟩, by omega, by omega⟩

theorem exC_cells {w : World} {q : Nat} (h : cn w q exC) : w.cell? ⟨q, 0, none⟩ = some (.string ⟨#[103, 111, 108, 100]⟩) ∧ w.cell? ⟨q, 1, none⟩ = some (.int .u64 5) ∧ w.cell? ⟨q, 2, none⟩ = some (.string ⟨#[97, 110, 110]⟩) ∧ w.cell? ⟨q, 3, none⟩ = some (.string ⟨#[98, 111, 98]⟩) := h.cells
theorem exD_cells {w : World} {q : Nat} (h : cn w q exD) : w.cell? ⟨q, 0, none⟩ = some (.string ⟨#[116, 114, 97, 110, 115, 102, 101, 114, 47, 52, 47, 103, 111, 108, 100]⟩) ∧ w.cell? ⟨q, 1, none⟩ = some (.int .u64 2) ∧ w.cell? ⟨q, 2, none⟩ = some (.string ⟨#[98, 111, 98]⟩) ∧ w.cell? ⟨q, 3, none⟩ = some (.string ⟨#[99, 121]⟩) := h.cells
set_option maxHeartbeats 8000000 in
set_option maxRecDepth 100000 in
theorem awake_any (w : World) : Calls Try.prog 15 #[] w fun e w' => e = .returned (.bool true) ∧ New w w' := by
  have M1 := fun w1 b n ma sa (h : Bk w1 b ma sa n emptyB) (hn : n ≤ 1000000) => mint_any b ma sa n emptyB xAnn xGold 9 (by show _ < _; decide) hn w1 h
  rw [aw1, show mintS emptyB xAnn xGold 9 = sA1 from rfl] at M1
  have O1 := fun w1 b n ma sa (h : Bk w1 b ma sa n sA1) (hn : n ≤ 1000000) => out_any b ma sa n sA1 3 (by show _ < _; decide) exC (by show _ < _; decide) hn w1 h
  rw [aw2.1, aw2.2] at O1
  have I1 := fun w1 b n ma sa (h : Bk w1 b ma sa n emptyB) (hn : n ≤ 1000000) => in_any b ma sa n emptyB 4 3 (by show _ < _; decide) (by show _ < _; decide) exC (by show _ < _; decide) hn w1 h
  rw [aw3.1, aw3.2] at I1
  have O2 := fun w1 b n ma sa (h : Bk w1 b ma sa n sB1) (hn : n ≤ 1000000) => out_any b ma sa n sB1 4 (by show _ < _; decide) exD (by show _ < _; decide) hn w1 h
  rw [aw5.1, aw5.2] at O2
  have I2 := fun w1 b n ma sa (h : Bk w1 b ma sa n sA2) (hn : n ≤ 1000000) => in_any b ma sa n sA2 3 4 (by show _ < _; decide) (by show _ < _; decide) exD (by show _ < _; decide) hn w1 h
  rw [aw6.1, aw6.2] at I2
  have B1 := fun w1 b n (h : Sg w w1 b n sB1) => h.bal xV4 xBob (by decide) (by decide)
  rw [aw4] at B1
  have B2 := fun w1 b n (h : Sg w w1 b n sA3) => h.bal xGold xCy (by decide) (by decide)
  rw [aw7] at B2
  have B3 := fun w1 b n (h : Sg w w1 b n sA3) => h.bal xGold xE3 (by decide) (by decide)
  rw [aw8] at B3
  have E1 := fun w1 => esc_any 3 (by show _ < _; decide) w1
  rw [esc3] at E1
  have V1 := fun w1 => vou_any 4 (by show _ < _; decide) xGold (by decide) w1
  rw [vou4] at V1
  unfold exC at O1 I1
  unfold exD at O2 I2
  unfold xAnn xBob xCy xGold xV4 xE3 at *
  go_enter Try.func15, Try.ntmps15
  go_wp2_with fail
  refine (sgNew (New.refl w)).mono ?_
  rintro e w1 ⟨a, rfl, h1⟩
  go_wp2_with fail
  refine (prNew h1).mono ?_
  rintro e w2 ⟨b, rfl, h2⟩
  clear h1
  go_wp2_with fail
  refine (h2.actA (fun ma sa hb => M1 _ a 0 ma sa hb (by omega))).mono ?_
  rintro e w3 ⟨rfl, h3, -⟩
  clear h2 M1
  go_upto_region 7 with (fail)
  have q4 : cn (w3.alloc (.cells #[.string ⟨#[103, 111, 108, 100]⟩, .int .u64 5, .string ⟨#[97, 110, 110]⟩, .string ⟨#[98, 111, 98]⟩] 41)) w3.heap.size exC := heap_alloc_new w3 _
  have n4 : New w3 (w3.alloc (.cells #[.string ⟨#[103, 111, 108, 100]⟩, .int .u64 5, .string ⟨#[97, 110, 110]⟩, .string ⟨#[98, 111, 98]⟩] 41)) := (New.refl w3).alloc _
  have n5 : New (w3.alloc (.cells #[.string ⟨#[103, 111, 108, 100]⟩, .int .u64 5, .string ⟨#[97, 110, 110]⟩, .string ⟨#[98, 111, 98]⟩] 41)) ((w3.alloc (.cells #[.string ⟨#[103, 111, 108, 100]⟩, .int .u64 5, .string ⟨#[97, 110, 110]⟩, .string ⟨#[98, 111, 98]⟩] 41)).alloc (.cells #[.string ⟨#[116, 114, 97, 110, 115, 102, 101, 114, 47, 52, 47, 103, 111, 108, 100]⟩, .int .u64 2, .string ⟨#[98, 111, 98]⟩, .string ⟨#[99, 121]⟩] 41)) := (New.refl _).alloc _
  have r5 : cn ((w3.alloc (.cells #[.string ⟨#[103, 111, 108, 100]⟩, .int .u64 5, .string ⟨#[97, 110, 110]⟩, .string ⟨#[98, 111, 98]⟩] 41)).alloc (.cells #[.string ⟨#[116, 114, 97, 110, 115, 102, 101, 114, 47, 52, 47, 103, 111, 108, 100]⟩, .int .u64 2, .string ⟨#[98, 111, 98]⟩, .string ⟨#[99, 121]⟩] 41)) (w3.heap.size + 1) exD := by
    have := heap_alloc_new (w3.alloc (.cells #[.string ⟨#[103, 111, 108, 100]⟩, .int .u64 5, .string ⟨#[97, 110, 110]⟩, .string ⟨#[98, 111, 98]⟩] 41)) (.cells #[.string ⟨#[116, 114, 97, 110, 115, 102, 101, 114, 47, 52, 47, 103, 111, 108, 100]⟩, .int .u64 2, .string ⟨#[98, 111, 98]⟩, .string ⟨#[99, 121]⟩] 41)
    simp only [World.size_alloc] at this
    exact this
  have q5 := q4.keep n5
  have h5 := (h3.keep n4).keep n5
  clear h3 q4 n4 n5
  generalize (w3.alloc _).alloc _ = w5 at *
  generalize w3.heap.size + 1 = Q2 at *
  generalize w3.heap.size = Q1 at *
  clear w3
  have d1 := exC_cells q5
  have d2 := exD_cells r5
  go_wp2_with fail
  refine (h5.actA (fun ma sa hb => O1 _ a 2 ma sa hb (by omega))).mono ?_
  rintro e w6 ⟨rfl, h6, k6⟩
  have q6 := q5.kc k6
  have r6 := r5.kc k6
  clear h5 q5 r5 k6 d1 d2 O1
  have d1 := exC_cells q6
  go_wp2_with fail
  refine (h6.actB (fun ma sa hb => I1 _ b 4 ma sa (hb.mono (by omega)) (by omega))).mono ?_
  rintro e w7 ⟨rfl, h7, k7⟩
  have r7 := r6.kc k7
  clear h6 q6 r6 k7 d1 I1
  go_wp2_with fail
  refine (B1 _ b 6 h7.snd).mono ?_
  rintro e w' ⟨rfl, rfl⟩
  have d2 := exD_cells r7
  go_wp2_with fail
  refine (h7.actB (fun ma sa hb => O2 _ b 6 ma sa hb (by omega))).mono ?_
  rintro e w8 ⟨rfl, h8, k8⟩
  have r8 := r7.kc k8
  clear h7 r7 k8 d2 O2 B1
  have d2 := exD_cells r8
  go_wp2_with fail
  refine (h8.actA (fun ma sa hb => I2 _ a 8 ma sa hb (by omega))).mono ?_
  rintro e w9 ⟨rfl, h9, k9⟩
  have r9 := r8.kc k9
  clear h8 r8 k9 d2 I2
  go_wp2_with fail
  refine (B2 _ a 10 h9.fst).mono ?_
  rintro e w' ⟨rfl, rfl⟩
  go_wp2_with fail
  refine (B3 _ a 10 h9.fst).mono ?_
  rintro e w' ⟨rfl, rfl⟩
  have n9 := h9.new.drew
  have r9d := r9.drew
  clear h9 B2 B3
  go_wp2_with fail
  refine wp_region_held_drew (S := (fun w' => cn w' Q2 exD ∧ New w w')) (by kernel_rfl) ?_ (fun hHeld => ?_)
  · exact ⟨r9d, n9⟩
  refine wpAnyH_take (i := 0) (oi := ⟨some 57, _, _, _, _, _⟩) (v := ?_) rfl (by kernel_rfl) (by kernel_rfl) (by kernel_rfl) (fun _ _ _ h => h) (Or.inl ⟨by rfl, ?_⟩) (by assumption) ?_
  rotate_left
  · (intro wq hSw; (try dsimp only at hSw); go_simp; try with_reducible rfl)
  try simp only [Act.put, List.setIfInBounds_toArray, List.set_cons_zero, List.set_cons_succ]
  refine wpAnyH_take (i := 1) (oi := ⟨some 58, _, _, _, _, _⟩) (v := ?_) rfl (by kernel_rfl) (by kernel_rfl) (by kernel_rfl) (fun _ _ _ h => h) (Or.inl ⟨by rfl, ?_⟩) (by assumption) ?_
  rotate_left
  · (intro wq hSw; (try dsimp only at hSw); go_simp; try with_reducible rfl)
  try simp only [Act.put, List.setIfInBounds_toArray, List.set_cons_zero, List.set_cons_succ]
  refine wpAnyH_take (i := 2) (oi := ⟨some 59, _, _, _, _, _⟩) (v := ?_) rfl (by kernel_rfl) (by kernel_rfl) (by kernel_rfl) (fun _ _ _ h => h) (Or.inl ⟨by rfl, ?_⟩) (by assumption) ?_
  rotate_left
  · (intro wq hSw; (try dsimp only at hSw); go_simp; try with_reducible rfl)
  try simp only [Act.put, List.setIfInBounds_toArray, List.set_cons_zero, List.set_cons_succ]
  refine wpAnyH_take (i := 3) (oi := ⟨some 60, _, _, _, _, _⟩) (v := ?_) rfl (by kernel_rfl) (by kernel_rfl) (by kernel_rfl) (fun _ _ _ h => h) (Or.inl ⟨by rfl, ?_⟩) (by assumption) ?_
  rotate_left
  · (intro wq hSw; (try dsimp only at hSw); go_simp; try with_reducible rfl)
  try simp only [Act.put, List.setIfInBounds_toArray, List.set_cons_zero, List.set_cons_succ]
  refine wpAnyH_take (i := 4) (oi := ⟨some 61, _, _, _, _, _⟩) (v := ?_) rfl (by kernel_rfl) (by kernel_rfl) (by kernel_rfl) (fun _ _ _ h => h) (Or.inl ⟨by rfl, ?_⟩) (by assumption) ?_
  rotate_left
  · (intro wq hSw; (try dsimp only at hSw); go_simp; try with_reducible rfl)
  try simp only [Act.put, List.setIfInBounds_toArray, List.set_cons_zero, List.set_cons_succ]
  refine wpAnyH_ready (rs := [5]) (by kernel_rfl) (by simp) ?_
  refine AllReadyH.cons (o := ⟨some 62, _, _, _, _, _⟩) rfl (fun K hK => ?_) AllReadyH.nil
  go_simp
  refine (E1 _).mono ?_; rintro e z5 ⟨rfl, y5⟩
  refine hK.out _ _ (⟨hHeld.1.keep y5, hHeld.2.then y5 (fun _ h => h.elim)⟩) (fun hHeld => ?_)
  clear hK K
  try simp only [Act.put, List.setIfInBounds_toArray, List.set_cons_zero, List.set_cons_succ]
  refine wpAnyH_take (i := 6) (oi := ⟨some 63, _, _, _, _, _⟩) (v := ?_) rfl (by kernel_rfl) (by kernel_rfl) (by kernel_rfl) (fun _ _ _ h => h) (Or.inl ⟨by rfl, ?_⟩) (by assumption) ?_
  rotate_left
  · (intro wq hSw; (try dsimp only at hSw); go_simp; try with_reducible rfl)
  try simp only [Act.put, List.setIfInBounds_toArray, List.set_cons_zero, List.set_cons_succ]
  refine wpAnyH_take (i := 7) (oi := ⟨some 64, _, _, _, _, _⟩) (v := ?_) rfl (by kernel_rfl) (by kernel_rfl) (by kernel_rfl) (fun _ _ _ h => h) (Or.inl ⟨by rfl, ?_⟩) (by assumption) ?_
  rotate_left
  · (intro wq hSw; (try dsimp only at hSw); go_simp; try with_reducible rfl)
  try simp only [Act.put, List.setIfInBounds_toArray, List.set_cons_zero, List.set_cons_succ]
  refine wpAnyH_take (i := 8) (oi := ⟨some 65, _, _, _, _, _⟩) (v := ?_) rfl (by kernel_rfl) (by kernel_rfl) (by kernel_rfl) (fun _ _ _ h => h) (Or.inl ⟨by rfl, ?_⟩) (by assumption) ?_
  rotate_left
  · (intro wq hSw; (try dsimp only at hSw); go_simp; try with_reducible rfl)
  try simp only [Act.put, List.setIfInBounds_toArray, List.set_cons_zero, List.set_cons_succ]
  refine wpAnyH_take (i := 10) (oi := ⟨some 67, _, _, _, _, _⟩) (v := ?_) rfl (by kernel_rfl) (by kernel_rfl) (by kernel_rfl) (fun _ _ _ h => h) (Or.inl ⟨by rfl, ?_⟩) (by assumption) ?_
  rotate_left
  · (intro wq hSw; (try dsimp only at hSw); go_simp; try with_reducible rfl)
  try simp only [Act.put, List.setIfInBounds_toArray, List.set_cons_zero, List.set_cons_succ]
  refine wpAnyH_take (i := 11) (oi := ⟨some 68, _, _, _, _, _⟩) (v := ?_) rfl (by kernel_rfl) (by kernel_rfl) (by kernel_rfl) (fun _ _ _ h => h) (Or.inl ⟨by rfl, ?_⟩) (by assumption) ?_
  rotate_left
  · (intro wq hSw; (try dsimp only at hSw); have d := exD_cells hSw.1; go_simp; try with_reducible rfl)
  try simp only [Act.put, List.setIfInBounds_toArray, List.set_cons_zero, List.set_cons_succ]
  refine wpAnyH_ready (rs := [9]) (by kernel_rfl) (by simp) ?_
  refine AllReadyH.cons (o := ⟨some 66, _, _, _, _, _⟩) rfl (fun K hK => ?_) AllReadyH.nil
  go_simp
  refine (V1 _).mono ?_; rintro e z9 ⟨rfl, y9⟩
  refine hK.out _ _ (⟨hHeld.1.keep y9, hHeld.2.then y9 (fun _ h => h.elim)⟩) (fun hHeld => ?_)
  clear hK K
  try simp only [Act.put, List.setIfInBounds_toArray, List.set_cons_zero, List.set_cons_succ]
  refine wpAnyH_take (i := 12) (oi := ⟨some 69, _, _, _, _, _⟩) (v := ?_) rfl (by kernel_rfl) (by kernel_rfl) (by kernel_rfl) (fun _ _ _ h => h) (Or.inl ⟨by rfl, ?_⟩) (by assumption) ?_
  rotate_left
  · (intro wq hSw; (try dsimp only at hSw); go_simp; try with_reducible rfl)
  try simp only [Act.put, List.setIfInBounds_toArray, List.set_cons_zero, List.set_cons_succ]
  refine wpAnyH_take (i := 13) (oi := ⟨some 70, _, _, _, _, _⟩) (v := ?_) rfl (by kernel_rfl) (by kernel_rfl) (by kernel_rfl) (fun _ _ _ h => h) (Or.inl ⟨by rfl, ?_⟩) (by assumption) ?_
  rotate_left
  · (intro wq hSw; (try dsimp only at hSw); go_simp; try with_reducible rfl)
  try simp only [Act.put, List.setIfInBounds_toArray, List.set_cons_zero, List.set_cons_succ]
  refine wpAnyH_take (i := 14) (oi := ⟨some 0, _, _, _, _, _⟩) (v := ?_) rfl (by kernel_rfl) (by kernel_rfl) (by kernel_rfl) (fun _ _ _ h => h) (Or.inl ⟨by rfl, ?_⟩) (by assumption) ?_
  rotate_left
  · (intro wq hSw; (try dsimp only at hSw); go_simp; try with_reducible rfl)
  try simp only [Act.put, List.setIfInBounds_toArray, List.set_cons_zero]
  refine wpAnyH_done (by kernel_rfl) ?_ _
  go_wp2_with fail
  go_ret
  exact ⟨rfl, hHeld.2⟩
end Go.Proofs.Ytcldbipipehedaa
