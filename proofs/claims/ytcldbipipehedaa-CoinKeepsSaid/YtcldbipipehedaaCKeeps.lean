/-
  voussoirlaw19.CoinKeeps: the walk.
-/
import Derived.Test.YtcldbipipehedaaKpI
import Derived.Test.YtcldbipipehedaaKpK
import Derived.Test.YtcldbipipehedaaKpN
import Derived.Test.YtcldbipipehedaaCOpen
import Derived.Deep.CutBlock
import Derived.Deep.DeepCutAuto
import Derived.Deep.RegionHeld3
import Derived.Deep.DrawnRows
import Derived.Deep.RegionWith
import Derived.Great.BuildSlice
namespace Go.Proofs.Ytcldbipipehedaa
open Go.RowKit Go.ChangeMaps
/-- the banks behind a mints at the one and b at the other -/
def sM (much a b : Nat) : Nat → BkS := fun o => if o = 0 then mS much 0 a else mS much 1 b
theorem Prs.of {w0 w : World} {P : Nat → Nat} {n : Nat} {s s' : Nat → BkS} (h : Prs w0 w P n s) (h0 : s 0 = s' 0) (h1 : s 1 = s' 1) : Prs w0 w P n s' := by
  unfold Prs at h ⊢
  rw [← h0, ← h1]; exact h
def aY (w : World) (q : Nat) (x : A19) : Prop := w.heap[q]? = some (.cells #[.int .i64 x.what, .int .i64 x.side, .int .i64 x.fr, .int .i64 x.to, .int .i64 x.den, .int .i64 x.which, .int .u64 (x.n : Nat)] 39 (0, 0))
theorem aY.kc {w w' : World} {q : Nat} {x : A19} (h : aY w q x) (k : KC w w') : aY w' q x := k _ _ _ _ h
theorem aY.keep {w w' : World} {q : Nat} {x : A19} (h : aY w q x) (k : New w w') : aY w' q x := k.kept h (fun h => h)
theorem aY.drew {w : World} {q : Nat} {x : A19} (h : aY w q x) : aY w.drew q x := h
/-- the row of ways turned, or a block of another type: all else is kept -/
theorem Prs.grownW {w0 wx W : World} {P : Nat → Nat} {n : Nat} {s : Nat → BkS} (h : Prs w0 wx P n s) {v : Value} {l : List Wy} (hl : Wys w0 wx v l) (hg : wx.grownBy W v.ownBlock) : Prs w0 W P n s := by
  rcases hl.2 with ⟨rfl, -⟩ | ⟨g, cap, cur, rfl, hb, hgg, -⟩
  · exact h.keep ((New.refl wx).grown hg (fun k hk => by simp [Value.ownBlock] at hk))
  · exact h.stored hgg (by decide) hb (grown_keeps hg)
theorem far_type {w W : World} {a b : Nat} {c c' : Array Value} {T T' : TypeId} {f f' : Nat × Nat} (h : w.heap[a]? = some (.cells c T f)) (p : w.heap[b]? = some (.cells c' T' f')) (hT : T ≠ T') (k : Keeps (fun k => k = b) w W) : W.heap[a]? = some (.cells c T f) := by
  refine k.kept h ?_
  intro e
  rw [show a = b from e, p] at h
  simp at h
  exact hT h.2.1.symm
theorem bL.grownW {w0 wx W : World} {P : Nat → Nat} {G : Nat} (h : bL wx G P) {v : Value} {l : List Wy} (hl : Wys w0 wx v l) (hg : wx.grownBy W v.ownBlock) : bL W G P := by
  rcases hl.2 with ⟨rfl, -⟩ | ⟨g, cap, cur, rfl, hb, hgg, -⟩
  · exact h.keep ((New.refl wx).grown hg (fun k hk => by simp [Value.ownBlock] at hk))
  · exact far_type h hgg (by decide) (grown_keeps hg)
theorem Wys.far {w0 w W : World} {v : Value} {l : List Wy} (h : Wys w0 w v l) {b : Nat} {c' : Array Value} {T' : TypeId} {f' : Nat × Nat} (p : w.heap[b]? = some (.cells c' T' f')) (hT : 54 ≠ T') (k : Keeps (fun k => k = b) w W) : Wys w0 W v l := by
  refine ⟨h.1, ?_⟩
  rcases h.2 with hn | ⟨g, cap, cur, rfl, hb, hgg, rest⟩
  · exact .inl hn
  · exact .inr ⟨g, cap, cur, rfl, hb, far_type hgg p hT k, rest⟩
theorem Wys.snoc {w0 w : World} {v : Value} {l : List Wy} {x : Wy} {n : Nat} {xs : List Value} (h : w.ownsRow w0.heap.size 54 6 v n xs) (hn : n = l.length + 1) (hx : xs = flatW l ++ wyV x) : Wys w0 w v (l ++ [x]) := by
  unfold Wys
  rw [flatW_app, List.length_append]
  subst hn; subst hx
  simpa [flatW] using h
theorem wys_cap {w0 w : World} {a : Option Addr} {n cap : Nat} {l : List Wy} (h : Wys w0 w (.slice a n cap) l) : l.length ≤ cap := by
  rcases h.2 with ⟨h1, h2⟩ | ⟨g, cap', cur, h1, hb, hgg, hc, rest⟩
  · rw [h2]; omega
  · cases h1; exact hc
/-- a way, laid -/
def wW (w : World) (q : Nat) (x : Wy) : Prop := w.heap[q]? = some (.cells (wyV x).toArray 54 (0, 0))
theorem wW.cells {w : World} {q : Nat} {x : Wy} (h : wW w q x) : w.cell? ⟨q, 0, none⟩ = some (.int .i64 (x.fr : Nat)) ∧ w.cell? ⟨q, 1, none⟩ = some (.string ⟨x.c.den.toArray⟩) ∧ w.cell? ⟨q, 2, none⟩ = some (.int .u64 (x.c.amt : Nat)) ∧
    w.cell? ⟨q, 3, none⟩ = some (.string ⟨x.c.fr.toArray⟩) ∧ w.cell? ⟨q, 4, none⟩ = some (.string ⟨x.c.to.toArray⟩) ∧ w.cell? ⟨q, 5, none⟩ = some (.bool x.failed) := by
  refine ⟨?_, ?_, ?_, ?_, ?_, ?_⟩ <;> (rw [cell_blk h]; rfl)
theorem wW.kc {w w' : World} {q : Nat} {x : Wy} (h : wW w q x) (k : KC w w') : wW w' q x := k _ _ _ _ h
theorem wW.keep {w w' : World} {q : Nat} {x : Wy} (h : wW w q x) (k : New w w') : wW w' q x := k.kept h (fun h => h)
theorem wW.drew {w : World} {q : Nat} {x : Wy} (h : wW w q x) : wW w.drew q x := h
theorem src_none (w : World) (g : Nat) (m c : Nat) {xs : List Value} (hm : m = 0) (hx : xs = []) : Src Try.prog 6 52 (.slice (some ⟨g, 0, none⟩) m c) m xs w := by
  subst hx
  exact Src.ofSlice _ Try.underlying52 ⟨g, 0, none⟩ m c _ (by rw [hm]; rfl) (fun j u hj => by cases hj) (fun u hu => by cases hu)
theorem six_of (b : Array Value) (h : b.size = 6) : ∃ x0 x1 x2 x3 x4 x5, b = #[x0, x1, x2, x3, x4, x5] := by
  obtain ⟨l⟩ := b
  match l, h with
  | [x0, x1, x2, x3, x4, x5], _ => exact ⟨x0, x1, x2, x3, x4, x5, rfl⟩
theorem way_fill (z v : Value) (a0 a1 a2 a3 a4 a5 : Value) (hv : v.cells = #[a0, a1, a2, a3, a4, a5]) :
    Instr.fill (fun i => some (i * 6, 6)) ((Array.range (1 * 6)).map (z.cells[· % z.cells.size]!)) [(0, v)] = some #[a0, a1, a2, a3, a4, a5] := by
  obtain ⟨x0, x1, x2, x3, x4, x5, hb⟩ := six_of ((Array.range (1 * 6)).map (z.cells[· % z.cells.size]!)) (by simp)
  rw [hb]
  unfold Instr.fill
  simp only [hv]
  simp [Instr.fill, Array.zipIdx]
/-- a slice literal of one way: taken by evaluation, the kernel does not come to an end with it -/
theorem way_slice {ops : Array Oper} {rest : List Oper} {o : Oper} {a : Act} {w : World} {Q : Exit → Act → World → Prop} (hg : o.guard = none) (t : Tmp) (ho : o.op = .buildSlice 52 1 #[(0, .tmp t)]) (x : Wy)
    (hx : a.eval (.tmp t) = .agg (wyV x).toArray)
    (h : ∀ zA q7, World.alloc w (.cells (wyV x).toArray 54) = zA → w.heap.size = q7 → wpList Try.prog ops Q rest (a.put o.dst (.slice (some ⟨q7, 0, none⟩) 1 1)) zA) : wpList Try.prog ops Q (o :: rest) a w := by
  obtain ⟨i, hi, hz0, hz1, hz2⟩ := info_partsW
  refine wpList_buildSlice hg 52 54 1 #[(0, .tmp t)] ho (wyV x).toArray i _ Try.underlying52 hi hz0 (by rw [hz1]; decide) (by rw [hz1]; decide) ?_ (h _ _ rfl rfl)
  simp only [List.map_toArray, List.map_cons, List.map_nil, hz1, hx]
  exact way_fill _ _ _ _ _ _ _ _ rfl
/-- a way that is laid ahead of an append: the row, the source, the sizes -/
theorem way_laid {w0 z6 : World} {u9 : Value} {l : List Wy} (h : Wys w0 z6 u9 l) (hz : w0.heap.size ≤ z6.heap.size) (x : Wy) (zA : World) (q7 : Nat) (e : z6.alloc (.cells (wyV x).toArray 54) = zA) (e2 : z6.heap.size = q7) :
    zA.ownsRow w0.heap.size 54 6 u9 l.length (flatW l) ∧ Src Try.prog 6 52 (.slice (some ⟨q7, 0, none⟩) 1 1) 1 (wyV x) zA ∧ w0.heap.size ≤ zA.heap.size ∧ New z6 zA := by
  subst e; subst e2
  exact ⟨World.ownsRow.alloc h _, src_way z6 x _, by rw [World.size_alloc]; omega, (New.refl z6).alloc _⟩
theorem prsNew {w0 w : World} {a : Nat} {s : BkS} (h : Sg w0 w a 0 s) :
    Calls Try.prog 19 #[] w fun e w' => ∃ b, e = .returned (.pointer (some ⟨b, 0, none⟩)) ∧ Pr w0 w' a b 0 s emptyB := prNew h
set_option maxHeartbeats 16000000 in
set_option maxRecDepth 100000 in
theorem ckeeps_walk (A : Option Addr) (len cap : Nat) (la : List A19) (m0 : Nat) (w : World)
    (hla : la.length = len) (h63 : len ≤ 9223372036854775807) (hA : A19At w A la) (hm64 : U64 m0) :
    Calls Try.prog 5 #[.slice A len cap, .int .u64 (m0 : Nat)] w fun e w' => e = .returned (.bool true) ∧ New w w' := by
  obtain ⟨much, hmu⟩ : ∃ V, V = max m0 1 := ⟨_, rfl⟩
  have XM : max (m0 : Int) 1 = (much : Int) := by rw [hmu]; omega
  have um : U64 much := by have := hm64.lt; show _ < _; omega
  have m1 : 0 < much := by omega
  have ltm : much < 18446744073709551616 := um
  clear hmu hm64
  go_enter Try.func5, Try.ntmps5
  go_wp2_with fail
  refine (awake_any _).mono ?_
  rintro e w1 ⟨rfl, k1⟩
  go_wp2_with fail
  refine (sgNew k1).mono ?_
  rintro e w2 ⟨b0, rfl, h2⟩
  clear k1
  go_wp2_with fail
  refine (prsNew h2).mono ?_
  rintro e w3 ⟨b1, rfl, h3⟩
  clear h2
  obtain ⟨P, hP0, hP1⟩ : ∃ P : Nat → Nat, P 0 = b0 ∧ P 1 = b1 := ⟨fun o => if o = 0 then b0 else b1, rfl, rfl⟩
  have h3 : Prs w w3 P 0 (sM much 0 0) := by unfold Prs; rw [hP0, hP1]; exact h3
  rw [← hP0, ← hP1]
  clear hP0 hP1
  have k4 := (New.refl w3).alloc (.cells #[.pointer (some ⟨P 0, 0, none⟩), .pointer (some ⟨P 1, 0, none⟩)] 31)
  have g4 : bL (w3.alloc (.cells #[.pointer (some ⟨P 0, 0, none⟩), .pointer (some ⟨P 1, 0, none⟩)] 31)) w3.heap.size P := heap_alloc_new w3 _
  have h4 := h3.keep k4
  go_upto_region 3 with (fail)
  clear h3 k4
  revert g4 h4
  generalize w3.alloc _ = w4
  generalize w3.heap.size = G
  intro g4 h4
  have c0 := g4.cell (o := 0) (by omega)
  have c1 := g4.cell (o := 1) (by omega)
  go_wp2_with fail
  clear c0 c1
  go_loopw [7] (fun i wr => (i = .int .i64 0 ∧ Prs w wr P 0 (sM much 0 0) ∨ i = .int .i64 1 ∧ Prs w wr P 4 (sM much 2 0) ∨ i = .int .i64 2 ∧ Prs w wr P 8 (sM much 2 2)) ∧ bL wr G P) (fun i _ => 2 - (intOf i).toNat)
  case atStart => exact ⟨.inl ⟨rfl, h4⟩, g4⟩
  case round =>
    clear h4 g4
    obtain ⟨hi, g⟩ := hrel
    rcases hi with ⟨rfl, h⟩ | ⟨rfl, h⟩ | ⟨rfl, h⟩
    · go_wp2_with fail
      go_loopw [8] (fun i wr => (i = .int .i64 0 ∧ Prs w wr P 0 (sM much 0 0) ∨ i = .int .i64 1 ∧ Prs w wr P 2 (sM much 1 0) ∨ i = .int .i64 2 ∧ Prs w wr P 4 (sM much 2 0)) ∧ bL wr G P) (fun i _ => 2 - (intOf i).toNat)
      case atStart => exact ⟨.inl ⟨rfl, h⟩, g⟩
      case round =>
        clear h g
        obtain ⟨hi, g⟩ := hrel
        rcases hi with ⟨rfl, h⟩ | ⟨rfl, h⟩ | ⟨rfl, h⟩
        · as_aux_lemma =>
            have NM := fun w => name_any 0 ⟨by omega, by omega⟩ w
            rw [show nmL (pk 0 6) = xAnn from by decide] at NM
            have OW := fun w => own_any 0 (by omega) 0 ⟨by omega, by omega⟩ w
            rw [show pk 0 2 = 0 from by decide] at OW
            have M : ∀ z (g : Prs w z P 0 (sM much 0 0)), _ := fun z g => g.act (o := 0) (by omega) (fun ma sa hb => mint_any (P 0) ma sa 0 emptyB xAnn (owL 0 0) much um (by omega) z hb)
            rw [mS_e1 m1 ltm 0] at M
            generalize hd : owL 0 0 = d at *
            have hd9 : d.length ≤ 1000 := by rw [← hd]; have := (owL_four 0 0).2; omega
            clear hd9
            unfold xAnn at NM
            have gd := g.drew
            have hd2 := h.drew
            clear g h
            go_wp2_with fail
            refine wp_region_held_drew (S := (fun w' => bL w' G P)) (by kernel_rfl) ?_ (fun hHeld => ?_)
            · exact gd
            refine wpAnyH_take (i := 0) (oi := ⟨some 49, _, _, _, _, _⟩) (v := ?_) rfl (by kernel_rfl) (by kernel_rfl) (by kernel_rfl) (fun _ _ _ h => h) (Or.inl ⟨by rfl, ?_⟩) (by assumption) ?_
            rotate_left
            · (intro wq hSw; (try dsimp only at hSw); go_simp; try with_reducible rfl)
            try simp only [Act.put, List.setIfInBounds_toArray, List.set_cons_zero, List.set_cons_succ]
            refine wpAnyH_take (i := 1) (oi := ⟨some 50, _, _, _, _, _⟩) (v := ?_) rfl (by kernel_rfl) (by kernel_rfl) (by kernel_rfl) (fun _ _ _ h => h) (Or.inl ⟨by rfl, ?_⟩) (by assumption) ?_
            rotate_left
            · (intro wq hSw; (try dsimp only at hSw); go_simp; try with_reducible rfl)
            try simp only [Act.put, List.setIfInBounds_toArray, List.set_cons_zero, List.set_cons_succ]
            refine wpAnyH_take (i := 2) (oi := ⟨some 51, _, _, _, _, _⟩) (v := ?_) rfl (by kernel_rfl) (by kernel_rfl) (by kernel_rfl) (fun _ _ _ h => h) (Or.inl ⟨by rfl, ?_⟩) (by assumption) ?_
            rotate_left
            · (intro wq hSw; (try dsimp only at hSw); go_simp; try with_reducible rfl)
            try simp only [Act.put, List.setIfInBounds_toArray, List.set_cons_zero, List.set_cons_succ]
            refine wpAnyH_take (i := 3) (oi := ⟨some 52, _, _, _, _, _⟩) (v := ?_) rfl (by kernel_rfl) (by kernel_rfl) (by kernel_rfl) (fun _ _ _ h => h) (Or.inl ⟨by rfl, ?_⟩) (by assumption) ?_
            rotate_left
            · (intro wq hSw; (try dsimp only at hSw); have d := hSw.cell (o := 0) (by omega); go_simp; try with_reducible rfl)
            try simp only [Act.put, List.setIfInBounds_toArray, List.set_cons_zero, List.set_cons_succ]
            refine wpAnyH_take (i := 4) (oi := ⟨some 53, _, _, _, _, _⟩) (v := ?_) rfl (by kernel_rfl) (by kernel_rfl) (by kernel_rfl) (fun _ _ _ h => h) (Or.inl ⟨by rfl, ?_⟩) (by assumption) ?_
            rotate_left
            · (intro wq hSw; (try dsimp only at hSw); go_simp; try with_reducible rfl)
            try simp only [Act.put, List.setIfInBounds_toArray, List.set_cons_zero, List.set_cons_succ]
            refine wpAnyH_take (i := 6) (oi := ⟨some 55, _, _, _, _, _⟩) (v := ?_) rfl (by kernel_rfl) (by kernel_rfl) (by kernel_rfl) (fun _ _ _ h => h) (Or.inl ⟨by rfl, ?_⟩) (by assumption) ?_
            rotate_left
            · (intro wq hSw; (try dsimp only at hSw); go_simp; try with_reducible rfl)
            try simp only [Act.put, List.setIfInBounds_toArray, List.set_cons_zero, List.set_cons_succ]
            refine wpAnyH_take (i := 7) (oi := ⟨some 56, _, _, _, _, _⟩) (v := ?_) rfl (by kernel_rfl) (by kernel_rfl) (by kernel_rfl) (fun _ _ _ h => h) (Or.inl ⟨by rfl, ?_⟩) (by assumption) ?_
            rotate_left
            · (intro wq hSw; (try dsimp only at hSw); go_simp; try with_reducible rfl)
            try simp only [Act.put, List.setIfInBounds_toArray, List.set_cons_zero, List.set_cons_succ]
            refine wpAnyH_take (i := 9) (oi := ⟨some 58, _, _, _, _, _⟩) (v := ?_) rfl (by kernel_rfl) (by kernel_rfl) (by kernel_rfl) (fun _ _ _ h => h) (Or.inl ⟨by rfl, ?_⟩) (by assumption) ?_
            rotate_left
            · (intro wq hSw; (try dsimp only at hSw); go_simp; try with_reducible rfl)
            try simp only [Act.put, List.setIfInBounds_toArray, List.set_cons_zero, List.set_cons_succ]
            refine wpAnyH_ready (rs := [5]) (by kernel_rfl) (by simp) ?_
            refine AllReadyH.cons (o := ⟨some 54, _, _, _, _, _⟩) rfl (fun K hK => ?_) AllReadyH.nil
            go_simp
            refine (NM _).mono ?_; rintro e z5 ⟨rfl, y5⟩; have h5 := hd2.keep y5
            refine hK.out _ _ (hHeld.keep y5) (fun hHeld => ?_)
            clear hK K
            try simp only [Act.put, List.setIfInBounds_toArray, List.set_cons_zero, List.set_cons_succ]
            refine wpAnyH_ready (rs := [8]) (by kernel_rfl) (by simp) ?_
            refine AllReadyH.cons (o := ⟨some 57, _, _, _, _, _⟩) rfl (fun K hK => ?_) AllReadyH.nil
            go_simp
            refine (OW _).mono ?_; rintro e z8 ⟨rfl, y8⟩; have h8 := h5.keep y8
            refine hK.out _ _ (hHeld.keep y8) (fun hHeld => ?_)
            clear hK K
            try simp only [Act.put, List.setIfInBounds_toArray, List.set_cons_zero, List.set_cons_succ]
            refine wpAnyH_ready (rs := [10]) (by kernel_rfl) (by simp) ?_
            refine AllReadyH.cons (o := ⟨some 59, _, _, _, _, _⟩) rfl (fun K hK => ?_) AllReadyH.nil
            go_simp
            refine (M _ h8).mono ?_; rintro e z10 ⟨rfl, h10, y10⟩
            refine hK.out _ _ (hHeld.kc y10) (fun hHeld => ?_)
            clear hK K
            try simp only [Act.put, List.setIfInBounds_toArray, List.set_cons_zero, List.set_cons_succ]
            refine wpAnyH_take (i := 11) (oi := ⟨some 60, _, _, _, _, _⟩) (v := ?_) rfl (by kernel_rfl) (by kernel_rfl) (by kernel_rfl) (fun _ _ _ h => h) (Or.inl ⟨by rfl, ?_⟩) (by assumption) ?_
            rotate_left
            · (intro wq hSw; (try dsimp only at hSw); go_simp; try with_reducible rfl)
            try simp only [Act.put, List.setIfInBounds_toArray, List.set_cons_zero, List.set_cons_succ]
            refine wpAnyH_done (by kernel_rfl) ?_ _
            have hh : Prs w z10 P 2 (sM much 1 0) := h10.of (by subst hd; rfl) (by subst hd; rfl)
            clear hd gd hd2 h5 h8 h10 M NM OW y5 y8 y10
            go_wp2_with fail
            go_roundw
            case rel => exact ⟨.inr (.inl ⟨rfl, hh⟩), hHeld⟩
            case measure => simp [intOf]
        · as_aux_lemma =>
            have NM := fun w => name_any 1 ⟨by omega, by omega⟩ w
            rw [show nmL (pk 1 6) = xBob from by decide] at NM
            have OW := fun w => own_any 0 (by omega) 1 ⟨by omega, by omega⟩ w
            rw [show pk 1 2 = 1 from by decide] at OW
            have M : ∀ z (g : Prs w z P 2 (sM much 1 0)), _ := fun z g => g.act (o := 0) (by omega) (fun ma sa hb => mint_any (P 0) ma sa 2 (mS much 0 1) xBob (owL 0 1) much um (by omega) z hb)
            rw [mS_e2 m1 ltm 0] at M
            generalize hd : owL 0 1 = d at *
            have hd9 : d.length ≤ 1000 := by rw [← hd]; have := (owL_four 0 1).2; omega
            clear hd9
            unfold xBob at NM
            have gd := g.drew
            have hd2 := h.drew
            clear g h
            go_wp2_with fail
            refine wp_region_held_drew (S := (fun w' => bL w' G P)) (by kernel_rfl) ?_ (fun hHeld => ?_)
            · exact gd
            refine wpAnyH_take (i := 0) (oi := ⟨some 49, _, _, _, _, _⟩) (v := ?_) rfl (by kernel_rfl) (by kernel_rfl) (by kernel_rfl) (fun _ _ _ h => h) (Or.inl ⟨by rfl, ?_⟩) (by assumption) ?_
            rotate_left
            · (intro wq hSw; (try dsimp only at hSw); go_simp; try with_reducible rfl)
            try simp only [Act.put, List.setIfInBounds_toArray, List.set_cons_zero, List.set_cons_succ]
            refine wpAnyH_take (i := 1) (oi := ⟨some 50, _, _, _, _, _⟩) (v := ?_) rfl (by kernel_rfl) (by kernel_rfl) (by kernel_rfl) (fun _ _ _ h => h) (Or.inl ⟨by rfl, ?_⟩) (by assumption) ?_
            rotate_left
            · (intro wq hSw; (try dsimp only at hSw); go_simp; try with_reducible rfl)
            try simp only [Act.put, List.setIfInBounds_toArray, List.set_cons_zero, List.set_cons_succ]
            refine wpAnyH_take (i := 2) (oi := ⟨some 51, _, _, _, _, _⟩) (v := ?_) rfl (by kernel_rfl) (by kernel_rfl) (by kernel_rfl) (fun _ _ _ h => h) (Or.inl ⟨by rfl, ?_⟩) (by assumption) ?_
            rotate_left
            · (intro wq hSw; (try dsimp only at hSw); go_simp; try with_reducible rfl)
            try simp only [Act.put, List.setIfInBounds_toArray, List.set_cons_zero, List.set_cons_succ]
            refine wpAnyH_take (i := 3) (oi := ⟨some 52, _, _, _, _, _⟩) (v := ?_) rfl (by kernel_rfl) (by kernel_rfl) (by kernel_rfl) (fun _ _ _ h => h) (Or.inl ⟨by rfl, ?_⟩) (by assumption) ?_
            rotate_left
            · (intro wq hSw; (try dsimp only at hSw); have d := hSw.cell (o := 0) (by omega); go_simp; try with_reducible rfl)
            try simp only [Act.put, List.setIfInBounds_toArray, List.set_cons_zero, List.set_cons_succ]
            refine wpAnyH_take (i := 4) (oi := ⟨some 53, _, _, _, _, _⟩) (v := ?_) rfl (by kernel_rfl) (by kernel_rfl) (by kernel_rfl) (fun _ _ _ h => h) (Or.inl ⟨by rfl, ?_⟩) (by assumption) ?_
            rotate_left
            · (intro wq hSw; (try dsimp only at hSw); go_simp; try with_reducible rfl)
            try simp only [Act.put, List.setIfInBounds_toArray, List.set_cons_zero, List.set_cons_succ]
            refine wpAnyH_take (i := 6) (oi := ⟨some 55, _, _, _, _, _⟩) (v := ?_) rfl (by kernel_rfl) (by kernel_rfl) (by kernel_rfl) (fun _ _ _ h => h) (Or.inl ⟨by rfl, ?_⟩) (by assumption) ?_
            rotate_left
            · (intro wq hSw; (try dsimp only at hSw); go_simp; try with_reducible rfl)
            try simp only [Act.put, List.setIfInBounds_toArray, List.set_cons_zero, List.set_cons_succ]
            refine wpAnyH_take (i := 7) (oi := ⟨some 56, _, _, _, _, _⟩) (v := ?_) rfl (by kernel_rfl) (by kernel_rfl) (by kernel_rfl) (fun _ _ _ h => h) (Or.inl ⟨by rfl, ?_⟩) (by assumption) ?_
            rotate_left
            · (intro wq hSw; (try dsimp only at hSw); go_simp; try with_reducible rfl)
            try simp only [Act.put, List.setIfInBounds_toArray, List.set_cons_zero, List.set_cons_succ]
            refine wpAnyH_take (i := 9) (oi := ⟨some 58, _, _, _, _, _⟩) (v := ?_) rfl (by kernel_rfl) (by kernel_rfl) (by kernel_rfl) (fun _ _ _ h => h) (Or.inl ⟨by rfl, ?_⟩) (by assumption) ?_
            rotate_left
            · (intro wq hSw; (try dsimp only at hSw); go_simp; try with_reducible rfl)
            try simp only [Act.put, List.setIfInBounds_toArray, List.set_cons_zero, List.set_cons_succ]
            refine wpAnyH_ready (rs := [5]) (by kernel_rfl) (by simp) ?_
            refine AllReadyH.cons (o := ⟨some 54, _, _, _, _, _⟩) rfl (fun K hK => ?_) AllReadyH.nil
            go_simp
            refine (NM _).mono ?_; rintro e z5 ⟨rfl, y5⟩; have h5 := hd2.keep y5
            refine hK.out _ _ (hHeld.keep y5) (fun hHeld => ?_)
            clear hK K
            try simp only [Act.put, List.setIfInBounds_toArray, List.set_cons_zero, List.set_cons_succ]
            refine wpAnyH_ready (rs := [8]) (by kernel_rfl) (by simp) ?_
            refine AllReadyH.cons (o := ⟨some 57, _, _, _, _, _⟩) rfl (fun K hK => ?_) AllReadyH.nil
            go_simp
            refine (OW _).mono ?_; rintro e z8 ⟨rfl, y8⟩; have h8 := h5.keep y8
            refine hK.out _ _ (hHeld.keep y8) (fun hHeld => ?_)
            clear hK K
            try simp only [Act.put, List.setIfInBounds_toArray, List.set_cons_zero, List.set_cons_succ]
            refine wpAnyH_ready (rs := [10]) (by kernel_rfl) (by simp) ?_
            refine AllReadyH.cons (o := ⟨some 59, _, _, _, _, _⟩) rfl (fun K hK => ?_) AllReadyH.nil
            go_simp
            refine (M _ h8).mono ?_; rintro e z10 ⟨rfl, h10, y10⟩
            refine hK.out _ _ (hHeld.kc y10) (fun hHeld => ?_)
            clear hK K
            try simp only [Act.put, List.setIfInBounds_toArray, List.set_cons_zero, List.set_cons_succ]
            refine wpAnyH_take (i := 11) (oi := ⟨some 60, _, _, _, _, _⟩) (v := ?_) rfl (by kernel_rfl) (by kernel_rfl) (by kernel_rfl) (fun _ _ _ h => h) (Or.inl ⟨by rfl, ?_⟩) (by assumption) ?_
            rotate_left
            · (intro wq hSw; (try dsimp only at hSw); go_simp; try with_reducible rfl)
            try simp only [Act.put, List.setIfInBounds_toArray, List.set_cons_zero, List.set_cons_succ]
            refine wpAnyH_done (by kernel_rfl) ?_ _
            have hh : Prs w z10 P 4 (sM much 2 0) := h10.of (by subst hd; rfl) (by subst hd; rfl)
            clear hd gd hd2 h5 h8 h10 M NM OW y5 y8 y10
            go_wp2_with fail
            go_roundw
            case rel => exact ⟨.inr (.inr ⟨rfl, hh⟩), hHeld⟩
            case measure => simp [intOf]
        · go_wp2_with fail
          go_roundw
          case rel => exact ⟨.inr (.inl ⟨rfl, h⟩), g⟩
          case measure => simp [intOf]
    · go_wp2_with fail
      go_loopw [8] (fun i wr => (i = .int .i64 0 ∧ Prs w wr P 4 (sM much 2 0) ∨ i = .int .i64 1 ∧ Prs w wr P 6 (sM much 2 1) ∨ i = .int .i64 2 ∧ Prs w wr P 8 (sM much 2 2)) ∧ bL wr G P) (fun i _ => 2 - (intOf i).toNat)
      case atStart => exact ⟨.inl ⟨rfl, h⟩, g⟩
      case round =>
        clear h g
        obtain ⟨hi, g⟩ := hrel
        rcases hi with ⟨rfl, h⟩ | ⟨rfl, h⟩ | ⟨rfl, h⟩
        · as_aux_lemma =>
            have NM := fun w => name_any 0 ⟨by omega, by omega⟩ w
            rw [show nmL (pk 0 6) = xAnn from by decide] at NM
            have OW := fun w => own_any 1 (by omega) 0 ⟨by omega, by omega⟩ w
            rw [show pk 0 2 = 0 from by decide] at OW
            have M : ∀ z (g : Prs w z P 4 (sM much 2 0)), _ := fun z g => g.act (o := 1) (by omega) (fun ma sa hb => mint_any (P 1) ma sa 4 emptyB xAnn (owL 1 0) much um (by omega) z hb)
            rw [mS_e1 m1 ltm 1] at M
            generalize hd : owL 1 0 = d at *
            have hd9 : d.length ≤ 1000 := by rw [← hd]; have := (owL_four 1 0).2; omega
            clear hd9
            unfold xAnn at NM
            have gd := g.drew
            have hd2 := h.drew
            clear g h
            go_wp2_with fail
            refine wp_region_held_drew (S := (fun w' => bL w' G P)) (by kernel_rfl) ?_ (fun hHeld => ?_)
            · exact gd
            refine wpAnyH_take (i := 0) (oi := ⟨some 49, _, _, _, _, _⟩) (v := ?_) rfl (by kernel_rfl) (by kernel_rfl) (by kernel_rfl) (fun _ _ _ h => h) (Or.inl ⟨by rfl, ?_⟩) (by assumption) ?_
            rotate_left
            · (intro wq hSw; (try dsimp only at hSw); go_simp; try with_reducible rfl)
            try simp only [Act.put, List.setIfInBounds_toArray, List.set_cons_zero, List.set_cons_succ]
            refine wpAnyH_take (i := 1) (oi := ⟨some 50, _, _, _, _, _⟩) (v := ?_) rfl (by kernel_rfl) (by kernel_rfl) (by kernel_rfl) (fun _ _ _ h => h) (Or.inl ⟨by rfl, ?_⟩) (by assumption) ?_
            rotate_left
            · (intro wq hSw; (try dsimp only at hSw); go_simp; try with_reducible rfl)
            try simp only [Act.put, List.setIfInBounds_toArray, List.set_cons_zero, List.set_cons_succ]
            refine wpAnyH_take (i := 2) (oi := ⟨some 51, _, _, _, _, _⟩) (v := ?_) rfl (by kernel_rfl) (by kernel_rfl) (by kernel_rfl) (fun _ _ _ h => h) (Or.inl ⟨by rfl, ?_⟩) (by assumption) ?_
            rotate_left
            · (intro wq hSw; (try dsimp only at hSw); go_simp; try with_reducible rfl)
            try simp only [Act.put, List.setIfInBounds_toArray, List.set_cons_zero, List.set_cons_succ]
            refine wpAnyH_take (i := 3) (oi := ⟨some 52, _, _, _, _, _⟩) (v := ?_) rfl (by kernel_rfl) (by kernel_rfl) (by kernel_rfl) (fun _ _ _ h => h) (Or.inl ⟨by rfl, ?_⟩) (by assumption) ?_
            rotate_left
            · (intro wq hSw; (try dsimp only at hSw); have d := hSw.cell (o := 1) (by omega); go_simp; try with_reducible rfl)
            try simp only [Act.put, List.setIfInBounds_toArray, List.set_cons_zero, List.set_cons_succ]
            refine wpAnyH_take (i := 4) (oi := ⟨some 53, _, _, _, _, _⟩) (v := ?_) rfl (by kernel_rfl) (by kernel_rfl) (by kernel_rfl) (fun _ _ _ h => h) (Or.inl ⟨by rfl, ?_⟩) (by assumption) ?_
            rotate_left
            · (intro wq hSw; (try dsimp only at hSw); go_simp; try with_reducible rfl)
            try simp only [Act.put, List.setIfInBounds_toArray, List.set_cons_zero, List.set_cons_succ]
            refine wpAnyH_take (i := 6) (oi := ⟨some 55, _, _, _, _, _⟩) (v := ?_) rfl (by kernel_rfl) (by kernel_rfl) (by kernel_rfl) (fun _ _ _ h => h) (Or.inl ⟨by rfl, ?_⟩) (by assumption) ?_
            rotate_left
            · (intro wq hSw; (try dsimp only at hSw); go_simp; try with_reducible rfl)
            try simp only [Act.put, List.setIfInBounds_toArray, List.set_cons_zero, List.set_cons_succ]
            refine wpAnyH_take (i := 7) (oi := ⟨some 56, _, _, _, _, _⟩) (v := ?_) rfl (by kernel_rfl) (by kernel_rfl) (by kernel_rfl) (fun _ _ _ h => h) (Or.inl ⟨by rfl, ?_⟩) (by assumption) ?_
            rotate_left
            · (intro wq hSw; (try dsimp only at hSw); go_simp; try with_reducible rfl)
            try simp only [Act.put, List.setIfInBounds_toArray, List.set_cons_zero, List.set_cons_succ]
            refine wpAnyH_take (i := 9) (oi := ⟨some 58, _, _, _, _, _⟩) (v := ?_) rfl (by kernel_rfl) (by kernel_rfl) (by kernel_rfl) (fun _ _ _ h => h) (Or.inl ⟨by rfl, ?_⟩) (by assumption) ?_
            rotate_left
            · (intro wq hSw; (try dsimp only at hSw); go_simp; try with_reducible rfl)
            try simp only [Act.put, List.setIfInBounds_toArray, List.set_cons_zero, List.set_cons_succ]
            refine wpAnyH_ready (rs := [5]) (by kernel_rfl) (by simp) ?_
            refine AllReadyH.cons (o := ⟨some 54, _, _, _, _, _⟩) rfl (fun K hK => ?_) AllReadyH.nil
            go_simp
            refine (NM _).mono ?_; rintro e z5 ⟨rfl, y5⟩; have h5 := hd2.keep y5
            refine hK.out _ _ (hHeld.keep y5) (fun hHeld => ?_)
            clear hK K
            try simp only [Act.put, List.setIfInBounds_toArray, List.set_cons_zero, List.set_cons_succ]
            refine wpAnyH_ready (rs := [8]) (by kernel_rfl) (by simp) ?_
            refine AllReadyH.cons (o := ⟨some 57, _, _, _, _, _⟩) rfl (fun K hK => ?_) AllReadyH.nil
            go_simp
            refine (OW _).mono ?_; rintro e z8 ⟨rfl, y8⟩; have h8 := h5.keep y8
            refine hK.out _ _ (hHeld.keep y8) (fun hHeld => ?_)
            clear hK K
            try simp only [Act.put, List.setIfInBounds_toArray, List.set_cons_zero, List.set_cons_succ]
            refine wpAnyH_ready (rs := [10]) (by kernel_rfl) (by simp) ?_
            refine AllReadyH.cons (o := ⟨some 59, _, _, _, _, _⟩) rfl (fun K hK => ?_) AllReadyH.nil
            go_simp
            refine (M _ h8).mono ?_; rintro e z10 ⟨rfl, h10, y10⟩
            refine hK.out _ _ (hHeld.kc y10) (fun hHeld => ?_)
            clear hK K
            try simp only [Act.put, List.setIfInBounds_toArray, List.set_cons_zero, List.set_cons_succ]
            refine wpAnyH_take (i := 11) (oi := ⟨some 60, _, _, _, _, _⟩) (v := ?_) rfl (by kernel_rfl) (by kernel_rfl) (by kernel_rfl) (fun _ _ _ h => h) (Or.inl ⟨by rfl, ?_⟩) (by assumption) ?_
            rotate_left
            · (intro wq hSw; (try dsimp only at hSw); go_simp; try with_reducible rfl)
            try simp only [Act.put, List.setIfInBounds_toArray, List.set_cons_zero, List.set_cons_succ]
            refine wpAnyH_done (by kernel_rfl) ?_ _
            have hh : Prs w z10 P 6 (sM much 2 1) := h10.of (by subst hd; rfl) (by subst hd; rfl)
            clear hd gd hd2 h5 h8 h10 M NM OW y5 y8 y10
            go_wp2_with fail
            go_roundw
            case rel => exact ⟨.inr (.inl ⟨rfl, hh⟩), hHeld⟩
            case measure => simp [intOf]
        · as_aux_lemma =>
            have NM := fun w => name_any 1 ⟨by omega, by omega⟩ w
            rw [show nmL (pk 1 6) = xBob from by decide] at NM
            have OW := fun w => own_any 1 (by omega) 1 ⟨by omega, by omega⟩ w
            rw [show pk 1 2 = 1 from by decide] at OW
            have M : ∀ z (g : Prs w z P 6 (sM much 2 1)), _ := fun z g => g.act (o := 1) (by omega) (fun ma sa hb => mint_any (P 1) ma sa 6 (mS much 1 1) xBob (owL 1 1) much um (by omega) z hb)
            rw [mS_e2 m1 ltm 1] at M
            generalize hd : owL 1 1 = d at *
            have hd9 : d.length ≤ 1000 := by rw [← hd]; have := (owL_four 1 1).2; omega
            clear hd9
            unfold xBob at NM
            have gd := g.drew
            have hd2 := h.drew
            clear g h
            go_wp2_with fail
            refine wp_region_held_drew (S := (fun w' => bL w' G P)) (by kernel_rfl) ?_ (fun hHeld => ?_)
            · exact gd
            refine wpAnyH_take (i := 0) (oi := ⟨some 49, _, _, _, _, _⟩) (v := ?_) rfl (by kernel_rfl) (by kernel_rfl) (by kernel_rfl) (fun _ _ _ h => h) (Or.inl ⟨by rfl, ?_⟩) (by assumption) ?_
            rotate_left
            · (intro wq hSw; (try dsimp only at hSw); go_simp; try with_reducible rfl)
            try simp only [Act.put, List.setIfInBounds_toArray, List.set_cons_zero, List.set_cons_succ]
            refine wpAnyH_take (i := 1) (oi := ⟨some 50, _, _, _, _, _⟩) (v := ?_) rfl (by kernel_rfl) (by kernel_rfl) (by kernel_rfl) (fun _ _ _ h => h) (Or.inl ⟨by rfl, ?_⟩) (by assumption) ?_
            rotate_left
            · (intro wq hSw; (try dsimp only at hSw); go_simp; try with_reducible rfl)
            try simp only [Act.put, List.setIfInBounds_toArray, List.set_cons_zero, List.set_cons_succ]
            refine wpAnyH_take (i := 2) (oi := ⟨some 51, _, _, _, _, _⟩) (v := ?_) rfl (by kernel_rfl) (by kernel_rfl) (by kernel_rfl) (fun _ _ _ h => h) (Or.inl ⟨by rfl, ?_⟩) (by assumption) ?_
            rotate_left
            · (intro wq hSw; (try dsimp only at hSw); go_simp; try with_reducible rfl)
            try simp only [Act.put, List.setIfInBounds_toArray, List.set_cons_zero, List.set_cons_succ]
            refine wpAnyH_take (i := 3) (oi := ⟨some 52, _, _, _, _, _⟩) (v := ?_) rfl (by kernel_rfl) (by kernel_rfl) (by kernel_rfl) (fun _ _ _ h => h) (Or.inl ⟨by rfl, ?_⟩) (by assumption) ?_
            rotate_left
            · (intro wq hSw; (try dsimp only at hSw); have d := hSw.cell (o := 1) (by omega); go_simp; try with_reducible rfl)
            try simp only [Act.put, List.setIfInBounds_toArray, List.set_cons_zero, List.set_cons_succ]
            refine wpAnyH_take (i := 4) (oi := ⟨some 53, _, _, _, _, _⟩) (v := ?_) rfl (by kernel_rfl) (by kernel_rfl) (by kernel_rfl) (fun _ _ _ h => h) (Or.inl ⟨by rfl, ?_⟩) (by assumption) ?_
            rotate_left
            · (intro wq hSw; (try dsimp only at hSw); go_simp; try with_reducible rfl)
            try simp only [Act.put, List.setIfInBounds_toArray, List.set_cons_zero, List.set_cons_succ]
            refine wpAnyH_take (i := 6) (oi := ⟨some 55, _, _, _, _, _⟩) (v := ?_) rfl (by kernel_rfl) (by kernel_rfl) (by kernel_rfl) (fun _ _ _ h => h) (Or.inl ⟨by rfl, ?_⟩) (by assumption) ?_
            rotate_left
            · (intro wq hSw; (try dsimp only at hSw); go_simp; try with_reducible rfl)
            try simp only [Act.put, List.setIfInBounds_toArray, List.set_cons_zero, List.set_cons_succ]
            refine wpAnyH_take (i := 7) (oi := ⟨some 56, _, _, _, _, _⟩) (v := ?_) rfl (by kernel_rfl) (by kernel_rfl) (by kernel_rfl) (fun _ _ _ h => h) (Or.inl ⟨by rfl, ?_⟩) (by assumption) ?_
            rotate_left
            · (intro wq hSw; (try dsimp only at hSw); go_simp; try with_reducible rfl)
            try simp only [Act.put, List.setIfInBounds_toArray, List.set_cons_zero, List.set_cons_succ]
            refine wpAnyH_take (i := 9) (oi := ⟨some 58, _, _, _, _, _⟩) (v := ?_) rfl (by kernel_rfl) (by kernel_rfl) (by kernel_rfl) (fun _ _ _ h => h) (Or.inl ⟨by rfl, ?_⟩) (by assumption) ?_
            rotate_left
            · (intro wq hSw; (try dsimp only at hSw); go_simp; try with_reducible rfl)
            try simp only [Act.put, List.setIfInBounds_toArray, List.set_cons_zero, List.set_cons_succ]
            refine wpAnyH_ready (rs := [5]) (by kernel_rfl) (by simp) ?_
            refine AllReadyH.cons (o := ⟨some 54, _, _, _, _, _⟩) rfl (fun K hK => ?_) AllReadyH.nil
            go_simp
            refine (NM _).mono ?_; rintro e z5 ⟨rfl, y5⟩; have h5 := hd2.keep y5
            refine hK.out _ _ (hHeld.keep y5) (fun hHeld => ?_)
            clear hK K
            try simp only [Act.put, List.setIfInBounds_toArray, List.set_cons_zero, List.set_cons_succ]
            refine wpAnyH_ready (rs := [8]) (by kernel_rfl) (by simp) ?_
            refine AllReadyH.cons (o := ⟨some 57, _, _, _, _, _⟩) rfl (fun K hK => ?_) AllReadyH.nil
            go_simp
            refine (OW _).mono ?_; rintro e z8 ⟨rfl, y8⟩; have h8 := h5.keep y8
            refine hK.out _ _ (hHeld.keep y8) (fun hHeld => ?_)
            clear hK K
            try simp only [Act.put, List.setIfInBounds_toArray, List.set_cons_zero, List.set_cons_succ]
            refine wpAnyH_ready (rs := [10]) (by kernel_rfl) (by simp) ?_
            refine AllReadyH.cons (o := ⟨some 59, _, _, _, _, _⟩) rfl (fun K hK => ?_) AllReadyH.nil
            go_simp
            refine (M _ h8).mono ?_; rintro e z10 ⟨rfl, h10, y10⟩
            refine hK.out _ _ (hHeld.kc y10) (fun hHeld => ?_)
            clear hK K
            try simp only [Act.put, List.setIfInBounds_toArray, List.set_cons_zero, List.set_cons_succ]
            refine wpAnyH_take (i := 11) (oi := ⟨some 60, _, _, _, _, _⟩) (v := ?_) rfl (by kernel_rfl) (by kernel_rfl) (by kernel_rfl) (fun _ _ _ h => h) (Or.inl ⟨by rfl, ?_⟩) (by assumption) ?_
            rotate_left
            · (intro wq hSw; (try dsimp only at hSw); go_simp; try with_reducible rfl)
            try simp only [Act.put, List.setIfInBounds_toArray, List.set_cons_zero, List.set_cons_succ]
            refine wpAnyH_done (by kernel_rfl) ?_ _
            have hh : Prs w z10 P 8 (sM much 2 2) := h10.of (by subst hd; rfl) (by subst hd; rfl)
            clear hd gd hd2 h5 h8 h10 M NM OW y5 y8 y10
            go_wp2_with fail
            go_roundw
            case rel => exact ⟨.inr (.inr ⟨rfl, hh⟩), hHeld⟩
            case measure => simp [intOf]
        · go_wp2_with fail
          go_roundw
          case rel => exact ⟨.inr (.inr ⟨rfl, h⟩), g⟩
          case measure => simp [intOf]
    · have hs := ki_start m1 ltm
      have h5 : Prs w wr P 8 (sI much) := h.of rfl rfl
      clear h
      generalize sI much = s0 at *
      go_wp2_with fail
      go_loopw [9, 10] (fun v i wr => ∃ (k n : Nat) (s : Nat → BkS) (l : List Wy), k ≤ len ∧ k ≤ 60 ∧ n ≤ 8 + 2 * k ∧ l.length ≤ k ∧ i = .int .i64 k ∧ KI s l much ∧ Prs w wr P n s ∧ bL wr G P ∧ Wys w wr v l) (fun _ i _ => 60 - (intOf i).toNat)
      case atStart => exact ⟨0, 8, s0, [], by omega, by omega, by omega, by simp, rfl, hs, h5, g, Wys.nil w wr⟩
      case round =>
        clear hs h5 g
        obtain ⟨k, n, s, l, hk, hk60, hn, hlk, rfl, hI, h, g, hl⟩ := hrel
        have hk0 : (0 : Int) ≤ (k : Int) := Int.natCast_nonneg _
        by_cases hlt : k < len
        · by_cases hlt2 : k < 60
          · obtain ⟨bA, oA, rfl, hbA, ⟨i0, i1, i2, i3, i4, i5, i6⟩, c0, c1, c2, c3, c4, c5, c6⟩ := hA k la[k] (List.getElem?_eq_getElem (by omega))
            generalize la[k] = y at *
            have hk1 : (k : Int) < (len : Int) := by omega
            have nw := h.new
            have d0 := (nw.cell (p := ⟨bA, oA + k * 7, none⟩) hbA (fun h => h)).trans c0
            have d1 := (nw.cell (p := ⟨bA, oA + k * 7 + 1, none⟩) hbA (fun h => h)).trans c1
            have d2 := (nw.cell (p := ⟨bA, oA + k * 7 + 2, none⟩) hbA (fun h => h)).trans c2
            have d3 := (nw.cell (p := ⟨bA, oA + k * 7 + 3, none⟩) hbA (fun h => h)).trans c3
            have d4 := (nw.cell (p := ⟨bA, oA + k * 7 + 4, none⟩) hbA (fun h => h)).trans c4
            have d5 := (nw.cell (p := ⟨bA, oA + k * 7 + 5, none⟩) hbA (fun h => h)).trans c5
            have d6 := (nw.cell (p := ⟨bA, oA + k * 7 + 6, none⟩) hbA (fun h => h)).trans c6
            have k8 := (New.refl wr).alloc (.cells #[.int .i64 y.what, .int .i64 y.side, .int .i64 y.fr, .int .i64 y.to, .int .i64 y.den, .int .i64 y.which, .int .u64 (y.n : Nat)] 39)
            have y8 : aY (wr.alloc (.cells #[.int .i64 y.what, .int .i64 y.side, .int .i64 y.fr, .int .i64 y.to, .int .i64 y.den, .int .i64 y.which, .int .u64 (y.n : Nat)] 39)) wr.heap.size y := heap_alloc_new wr _
            have h8 := h.keep k8
            have g8 := g.keep k8
            have l8 := hl.keep k8
            go_upto_region 19 with (fail)
            clear h g hl k8 nw d0 d1 d2 d3 d4 d5 d6 c0 c1 c2 c3 c4 c5 c6
            revert y8 h8 g8 l8
            generalize wr.alloc _ = w8
            generalize wr.heap.size = q
            intro y8 h8 g8 l8
            have e8 := act_cells y8
            have S1 := fun w => pickC_any y.side 2 w i1 (by omega) (by omega)
            have W7 := fun w => pickC_any y.what 7 w i0 (by omega) (by omega)
            have hkk := pk_lt y.what 7 (by omega)
            have ho := pk_lt y.side 2 (by omega)
            generalize pk y.side 2 = o at *
            generalize pk y.what 7 = kk at *
            obtain ⟨H, hH⟩ : ∃ H, H = 1 + o := ⟨_, rfl⟩
            have eH : IntKind.u64.wrap (1 + (o : Int)) = (H : Int) := by rw [IntWalk.u64_in _ ⟨by omega, by omega⟩, hH]; omega
            go_wp2_with fail
            refine (S1 _).mono ?_
            rintro e z1 ⟨rfl, rfl⟩
            go_wp2_with fail
            refine (W7 _).mono ?_
            rintro e z1 ⟨rfl, rfl⟩
            go_upto_block 6 with (fail)
            go_cut [9] from 84 to 227 (fun v wx => ∃ (n2 : Nat) (s2 : Nat → BkS) (l2 : List Wy), n2 ≤ n + 2 ∧ l2.length ≤ k + 1 ∧ KI s2 l2 much ∧ Prs w wx P n2 s2 ∧ bL wx G P ∧ Wys w wx v l2)
            case rest =>
              clear hI h8 g8 l8 y8 e8 W7 S1 hA
              obtain ⟨n2, s2, l2, hn2, hl2, hI, h, g, hl⟩ := hcut
              have KP := keepsL_any P G n2 s2 _ l2 much ltm hI (by omega) w _ h g hl
              go_wp2_with fail
              refine KP.mono ?_
              rintro e z1 ⟨rfl, y1⟩
              have h1 := h.keep y1
              have g1 := g.keep y1
              have l1 := hl.keep y1
              clear h g hl y1 KP
              go_wp2_with fail
              go_roundw
              case rel => exact ⟨k + 1, n2, s2, l2, by omega, by omega, by omega, hl2, by go_num, hI, h1, g1, l1⟩
              case measure => simp [intOf]; omega
            case first =>
              have eo : ((1 + o : Nat) : Int) = 1 + (o : Int) := by omega
              have em : ((1 - o : Nat) : Int) = 1 - (o : Int) := by omega
              have ho0 : (0 : Int) ≤ (o : Int) := Int.natCast_nonneg _
              have ho2 : (o : Int) < 2 := by omega
              clear hA S1
              go_upto_if 163 with (fail)
              go_cut [163] from 164 to 166 (fun v wx => v = .bool (decide (kk ≤ 2)) ∧ Prs w wx P n s ∧ aY wx q y ∧ bL wx G P ∧ Wys w wx u9 l)
              case first =>
                rcases (by omega : kk = 0 ∨ kk = 1 ∨ kk = 2 ∨ 3 ≤ kk) with rfl | rfl | rfl | hk3
                · go_wp2_with fail
                  go_meet
                  case rel => exact ⟨rfl, h8, y8, g8, l8⟩
                · go_wp2_with fail
                  go_meet
                  case rel => exact ⟨rfl, h8, y8, g8, l8⟩
                · go_wp2_with fail
                  go_meet
                  case rel => exact ⟨rfl, h8, y8, g8, l8⟩
                · have q0 : ((kk : Int) == 0) = false := by simp; omega
                  have q1 : ((kk : Int) == 1) = false := by simp; omega
                  have q2 : ((kk : Int) == 2) = false := by simp; omega
                  have q3 : decide (kk ≤ 2) = false := by simp; omega
                  go_wp2_with fail
                  go_meet
                  case rel => exact ⟨by rw [q3], h8, y8, g8, l8⟩
              case rest =>
                clear h8 y8 g8 l8 e8
                obtain ⟨rfl, h8, y8, g8, l8⟩ := hcut
                revert h8 y8 g8 l8
                generalize wc = w8
                intro h8 y8 g8 l8
                have e8 := act_cells y8
                by_cases hk2 : kk ≤ 2
                · have q3 : decide (kk ≤ 2) = true := by simp; omega
                  as_aux_lemma =>
                    rw [q3]
                    have OW := fun w => own_any o ho y.den i4 w
                    have N1 := fun w => name_any y.fr i2 w
                    have N2 := fun w => name_any y.to i3 w
                    have k2 := pk_lt y.den 2 (by omega)
                    obtain ⟨den, hden⟩ : ∃ d, d = owL o (pk y.den 2) := ⟨_, rfl⟩
                    obtain ⟨nf, hnf⟩ : ∃ d, d = nmL (pk y.fr 6) := ⟨_, rfl⟩
                    obtain ⟨nt, hnt⟩ : ∃ d, d = nmL (pk y.to 6) := ⟨_, rfl⟩
                    rw [← hden] at OW
                    rw [← hnf] at N1
                    rw [← hnt] at N2
                    have hdenH := Lib.hid hden
                    have hnfH := Lib.hid hnf
                    have hntH := Lib.hid hnt
                    clear hden hnf hnt
                    go_upto_region 40 with (fail)
                    go_cut [14] from 167 to 180 (fun v wx => ∃ Q3 : Nat, v = .pointer (some ⟨Q3, 0, none⟩) ∧ w.heap.size ≤ Q3 ∧ Prs w wx P n s ∧ aY wx q y ∧ bL wx G P ∧ Wys w wx u9 l ∧ cn wx Q3 ⟨den, y.n, nf, nt⟩)
                    case first =>
                      have hd := h8.drew
                      have yd := y8.drew
                      have gd := g8.drew
                      have ld := l8.drew
                      clear h8 y8 g8 l8 e8
                      go_wp2_with fail
                      refine wp_region_held_drew (S := (fun w' => New w8.drew w')) (by kernel_rfl) ?_ (fun hHeld => ?_)
                      · exact New.refl _
                      have sg := hHeld
                      refine wpAnyH_take (i := 0) (oi := ⟨some 167, _, _, _, _, _⟩) (v := ?_) rfl (by kernel_rfl) (by kernel_rfl) (by kernel_rfl) (fun _ _ _ h => h) (Or.inl ⟨by rfl, ?_⟩) (by assumption) ?_
                      rotate_left
                      · (intro wq hSw; (try dsimp only at hSw); go_simp; try with_reducible rfl)
                      try simp only [Act.put, List.setIfInBounds_toArray, List.set_cons_zero, List.set_cons_succ]
                      refine wpAnyH_take (i := 1) (oi := ⟨some 168, _, _, _, _, _⟩) (v := ?_) rfl (by kernel_rfl) (by kernel_rfl) (by kernel_rfl) (fun _ _ _ h => h) (Or.inl ⟨by rfl, ?_⟩) (by assumption) ?_
                      rotate_left
                      · (intro wq hSw; (try dsimp only at hSw); go_simp; try with_reducible rfl)
                      try simp only [Act.put, List.setIfInBounds_toArray, List.set_cons_zero, List.set_cons_succ]
                      refine wpAnyH_take (i := 2) (oi := ⟨some 169, _, _, _, _, _⟩) (v := ?_) rfl (by kernel_rfl) (by kernel_rfl) (by kernel_rfl) (fun _ _ _ h => h) (Or.inl ⟨by rfl, ?_⟩) (by assumption) ?_
                      rotate_left
                      · (intro wq hSw; (try dsimp only at hSw); have d := act_cells (hSw.kept yd (fun h => h)); go_simp; try with_reducible rfl)
                      try simp only [Act.put, List.setIfInBounds_toArray, List.set_cons_zero, List.set_cons_succ]
                      refine wpAnyH_take (i := 4) (oi := ⟨some 171, _, _, _, _, _⟩) (v := ?_) rfl (by kernel_rfl) (by kernel_rfl) (by kernel_rfl) (fun _ _ _ h => h) (Or.inl ⟨by rfl, ?_⟩) (by assumption) ?_
                      rotate_left
                      · (intro wq hSw; (try dsimp only at hSw); go_simp; try with_reducible rfl)
                      try simp only [Act.put, List.setIfInBounds_toArray, List.set_cons_zero, List.set_cons_succ]
                      refine wpAnyH_take (i := 5) (oi := ⟨some 172, _, _, _, _, _⟩) (v := ?_) rfl (by kernel_rfl) (by kernel_rfl) (by kernel_rfl) (fun _ _ _ h => h) (Or.inl ⟨by rfl, ?_⟩) (by assumption) ?_
                      rotate_left
                      · (intro wq hSw; (try dsimp only at hSw); have d := act_cells (hSw.kept yd (fun h => h)); go_simp; try with_reducible rfl)
                      try simp only [Act.put, List.setIfInBounds_toArray, List.set_cons_zero, List.set_cons_succ]
                      refine wpAnyH_take (i := 6) (oi := ⟨some 173, _, _, _, _, _⟩) (v := ?_) rfl (by kernel_rfl) (by kernel_rfl) (by kernel_rfl) (fun _ _ _ h => h) (Or.inl ⟨by rfl, ?_⟩) (by assumption) ?_
                      rotate_left
                      · (intro wq hSw; (try dsimp only at hSw); go_simp; try with_reducible rfl)
                      try simp only [Act.put, List.setIfInBounds_toArray, List.set_cons_zero, List.set_cons_succ]
                      refine wpAnyH_take (i := 7) (oi := ⟨some 174, _, _, _, _, _⟩) (v := ?_) rfl (by kernel_rfl) (by kernel_rfl) (by kernel_rfl) (fun _ _ _ h => h) (Or.inl ⟨by rfl, ?_⟩) (by assumption) ?_
                      rotate_left
                      · (intro wq hSw; (try dsimp only at hSw); have d := act_cells (hSw.kept yd (fun h => h)); go_simp; try with_reducible rfl)
                      try simp only [Act.put, List.setIfInBounds_toArray, List.set_cons_zero, List.set_cons_succ]
                      refine wpAnyH_take (i := 9) (oi := ⟨some 176, _, _, _, _, _⟩) (v := ?_) rfl (by kernel_rfl) (by kernel_rfl) (by kernel_rfl) (fun _ _ _ h => h) (Or.inl ⟨by rfl, ?_⟩) (by assumption) ?_
                      rotate_left
                      · (intro wq hSw; (try dsimp only at hSw); go_simp; try with_reducible rfl)
                      try simp only [Act.put, List.setIfInBounds_toArray, List.set_cons_zero, List.set_cons_succ]
                      refine wpAnyH_take (i := 10) (oi := ⟨some 177, _, _, _, _, _⟩) (v := ?_) rfl (by kernel_rfl) (by kernel_rfl) (by kernel_rfl) (fun _ _ _ h => h) (Or.inl ⟨by rfl, ?_⟩) (by assumption) ?_
                      rotate_left
                      · (intro wq hSw; (try dsimp only at hSw); have d := act_cells (hSw.kept yd (fun h => h)); go_simp; try with_reducible rfl)
                      try simp only [Act.put, List.setIfInBounds_toArray, List.set_cons_zero, List.set_cons_succ]
                      refine wpAnyH_ready (rs := [3, 13]) (by kernel_rfl) (by simp) ?_
                      refine AllReadyH.cons (o := ⟨some 170, _, _, _, _, _⟩) rfl (fun K hK => ?_) (AllReadyH.cons (o := ⟨some 14, _, _, _, _, _⟩) rfl (fun K hK => ?_) AllReadyH.nil)
                      focus
                        go_simp
                        refine (OW _).mono ?_; rintro e z3 ⟨rfl, y3⟩; first | have al := y3.kept al (fun h => h) | (have hq := sg.size; have al := y3.kept (heap_alloc_new _ _) (fun h => h)) | skip; have sg := hHeld.then y3 (fun _ h => h.elim)
                        refine hK.out _ _ (hHeld.then y3 (fun _ h => h.elim)) (fun hHeld => ?_)
                        clear hK K
                        try simp only [Act.put, List.setIfInBounds_toArray, List.set_cons_zero, List.set_cons_succ]
                        refine wpAnyH_ready (rs := [8, 13]) (by kernel_rfl) (by simp) ?_
                        refine AllReadyH.cons (o := ⟨some 175, _, _, _, _, _⟩) rfl (fun K hK => ?_) (AllReadyH.cons (o := ⟨some 14, _, _, _, _, _⟩) rfl (fun K hK => ?_) AllReadyH.nil)
                        focus
                          go_simp
                          refine (N1 _).mono ?_; rintro e z8 ⟨rfl, y8⟩; first | have al := y8.kept al (fun h => h) | (have hq := sg.size; have al := y8.kept (heap_alloc_new _ _) (fun h => h)) | skip; have sg := hHeld.then y8 (fun _ h => h.elim)
                          refine hK.out _ _ (hHeld.then y8 (fun _ h => h.elim)) (fun hHeld => ?_)
                          clear hK K
                          try simp only [Act.put, List.setIfInBounds_toArray, List.set_cons_zero, List.set_cons_succ]
                          refine wpAnyH_ready (rs := [11, 13]) (by kernel_rfl) (by simp) ?_
                          refine AllReadyH.cons (o := ⟨some 178, _, _, _, _, _⟩) rfl (fun K hK => ?_) (AllReadyH.cons (o := ⟨some 14, _, _, _, _, _⟩) rfl (fun K hK => ?_) AllReadyH.nil)
                          focus
                            go_simp
                            refine (N2 _).mono ?_; rintro e z11 ⟨rfl, y11⟩; first | have al := y11.kept al (fun h => h) | (have hq := sg.size; have al := y11.kept (heap_alloc_new _ _) (fun h => h)) | skip; have sg := hHeld.then y11 (fun _ h => h.elim)
                            refine hK.out _ _ (hHeld.then y11 (fun _ h => h.elim)) (fun hHeld => ?_)
                            clear hK K
                            try simp only [Act.put, List.setIfInBounds_toArray, List.set_cons_zero, List.set_cons_succ]
                            refine wpAnyH_take (i := 12) (oi := ⟨some 179, _, _, _, _, _⟩) (v := ?_) rfl (by kernel_rfl) (by kernel_rfl) (by kernel_rfl) (fun _ _ _ h => h) (Or.inl ⟨by rfl, ?_⟩) (by assumption) ?_
                            rotate_left
                            · (intro wq hSw; (try dsimp only at hSw); go_simp; try with_reducible rfl)
                            try simp only [Act.put, List.setIfInBounds_toArray, List.set_cons_zero, List.set_cons_succ]
                            refine wpAnyH_ready (rs := [13]) (by kernel_rfl) (by simp) ?_
                            refine AllReadyH.cons (o := ⟨some 14, _, _, _, _, _⟩) rfl (fun K hK => ?_) AllReadyH.nil
                            go_simp
                            refine hK.out _ _ (hHeld.alloc _) (fun hHeld => ?_)
                            clear hK K
                            try simp only [Act.put, List.setIfInBounds_toArray, List.set_cons_zero, List.set_cons_succ]
                            refine wpAnyH_ready (rs := [14]) (by kernel_rfl) (by simp) ?_
                            refine AllReadyH.cons (o := ⟨none, _, _, _, _, _⟩) rfl (fun K hK => ?_) AllReadyH.nil
                            first | (have da := cells4 al; go_simp) | go_simp
                            refine hK.out _ _ (by first | exact sg.alloc _ | exact (((hHeld.set hq 0 _).set hq 1 _).set hq 2 _).set hq 3 _) (fun hHeld => ?_)
                            clear hK K
                            try simp only [Act.put, List.setIfInBounds_toArray, List.set_cons_zero, List.set_cons_succ]
                            refine wpAnyH_done (by kernel_rfl) ?_ _
                          rotate_left 1
                          focus
                            go_simp
                            refine hK.out _ _ (hHeld.alloc _) (fun hHeld => ?_)
                            clear hK K
                            try simp only [Act.put, List.setIfInBounds_toArray, List.set_cons_zero, List.set_cons_succ]
                            refine wpAnyH_ready (rs := [11]) (by kernel_rfl) (by simp) ?_
                            refine AllReadyH.cons (o := ⟨some 178, _, _, _, _, _⟩) rfl (fun K hK => ?_) AllReadyH.nil
                            go_simp
                            refine (N2 _).mono ?_; rintro e z11 ⟨rfl, y11⟩; first | have al := y11.kept al (fun h => h) | (have hq := sg.size; have al := y11.kept (heap_alloc_new _ _) (fun h => h)) | skip; have sg := hHeld.then y11 (fun _ h => h.elim)
                            refine hK.out _ _ (hHeld.then y11 (fun _ h => h.elim)) (fun hHeld => ?_)
                            clear hK K
                            try simp only [Act.put, List.setIfInBounds_toArray, List.set_cons_zero, List.set_cons_succ]
                            refine wpAnyH_take (i := 12) (oi := ⟨some 179, _, _, _, _, _⟩) (v := ?_) rfl (by kernel_rfl) (by kernel_rfl) (by kernel_rfl) (fun _ _ _ h => h) (Or.inl ⟨by rfl, ?_⟩) (by assumption) ?_
                            rotate_left
                            · (intro wq hSw; (try dsimp only at hSw); go_simp; try with_reducible rfl)
                            try simp only [Act.put, List.setIfInBounds_toArray, List.set_cons_zero, List.set_cons_succ]
                            refine wpAnyH_ready (rs := [14]) (by kernel_rfl) (by simp) ?_
                            refine AllReadyH.cons (o := ⟨none, _, _, _, _, _⟩) rfl (fun K hK => ?_) AllReadyH.nil
                            first | (have da := cells4 al; go_simp) | go_simp
                            refine hK.out _ _ (by first | exact sg.alloc _ | exact (((hHeld.set hq 0 _).set hq 1 _).set hq 2 _).set hq 3 _) (fun hHeld => ?_)
                            clear hK K
                            try simp only [Act.put, List.setIfInBounds_toArray, List.set_cons_zero, List.set_cons_succ]
                            refine wpAnyH_done (by kernel_rfl) ?_ _
                          rotate_left 1
                        rotate_left 2
                        focus
                          go_simp
                          refine hK.out _ _ (hHeld.alloc _) (fun hHeld => ?_)
                          clear hK K
                          try simp only [Act.put, List.setIfInBounds_toArray, List.set_cons_zero, List.set_cons_succ]
                          refine wpAnyH_ready (rs := [8]) (by kernel_rfl) (by simp) ?_
                          refine AllReadyH.cons (o := ⟨some 175, _, _, _, _, _⟩) rfl (fun K hK => ?_) AllReadyH.nil
                          go_simp
                          refine (N1 _).mono ?_; rintro e z8 ⟨rfl, y8⟩; first | have al := y8.kept al (fun h => h) | (have hq := sg.size; have al := y8.kept (heap_alloc_new _ _) (fun h => h)) | skip; have sg := hHeld.then y8 (fun _ h => h.elim)
                          refine hK.out _ _ (hHeld.then y8 (fun _ h => h.elim)) (fun hHeld => ?_)
                          clear hK K
                          try simp only [Act.put, List.setIfInBounds_toArray, List.set_cons_zero, List.set_cons_succ]
                          refine wpAnyH_ready (rs := [11]) (by kernel_rfl) (by simp) ?_
                          refine AllReadyH.cons (o := ⟨some 178, _, _, _, _, _⟩) rfl (fun K hK => ?_) AllReadyH.nil
                          go_simp
                          refine (N2 _).mono ?_; rintro e z11 ⟨rfl, y11⟩; first | have al := y11.kept al (fun h => h) | (have hq := sg.size; have al := y11.kept (heap_alloc_new _ _) (fun h => h)) | skip; have sg := hHeld.then y11 (fun _ h => h.elim)
                          refine hK.out _ _ (hHeld.then y11 (fun _ h => h.elim)) (fun hHeld => ?_)
                          clear hK K
                          try simp only [Act.put, List.setIfInBounds_toArray, List.set_cons_zero, List.set_cons_succ]
                          refine wpAnyH_take (i := 12) (oi := ⟨some 179, _, _, _, _, _⟩) (v := ?_) rfl (by kernel_rfl) (by kernel_rfl) (by kernel_rfl) (fun _ _ _ h => h) (Or.inl ⟨by rfl, ?_⟩) (by assumption) ?_
                          rotate_left
                          · (intro wq hSw; (try dsimp only at hSw); go_simp; try with_reducible rfl)
                          try simp only [Act.put, List.setIfInBounds_toArray, List.set_cons_zero, List.set_cons_succ]
                          refine wpAnyH_ready (rs := [14]) (by kernel_rfl) (by simp) ?_
                          refine AllReadyH.cons (o := ⟨none, _, _, _, _, _⟩) rfl (fun K hK => ?_) AllReadyH.nil
                          first | (have da := cells4 al; go_simp) | go_simp
                          refine hK.out _ _ (by first | exact sg.alloc _ | exact (((hHeld.set hq 0 _).set hq 1 _).set hq 2 _).set hq 3 _) (fun hHeld => ?_)
                          clear hK K
                          try simp only [Act.put, List.setIfInBounds_toArray, List.set_cons_zero, List.set_cons_succ]
                          refine wpAnyH_done (by kernel_rfl) ?_ _
                        rotate_left 1
                      rotate_left 3
                      focus
                        go_simp
                        refine hK.out _ _ (hHeld.alloc _) (fun hHeld => ?_)
                        clear hK K
                        try simp only [Act.put, List.setIfInBounds_toArray, List.set_cons_zero, List.set_cons_succ]
                        refine wpAnyH_ready (rs := [3]) (by kernel_rfl) (by simp) ?_
                        refine AllReadyH.cons (o := ⟨some 170, _, _, _, _, _⟩) rfl (fun K hK => ?_) AllReadyH.nil
                        go_simp
                        refine (OW _).mono ?_; rintro e z3 ⟨rfl, y3⟩; first | have al := y3.kept al (fun h => h) | (have hq := sg.size; have al := y3.kept (heap_alloc_new _ _) (fun h => h)) | skip; have sg := hHeld.then y3 (fun _ h => h.elim)
                        refine hK.out _ _ (hHeld.then y3 (fun _ h => h.elim)) (fun hHeld => ?_)
                        clear hK K
                        try simp only [Act.put, List.setIfInBounds_toArray, List.set_cons_zero, List.set_cons_succ]
                        refine wpAnyH_ready (rs := [8]) (by kernel_rfl) (by simp) ?_
                        refine AllReadyH.cons (o := ⟨some 175, _, _, _, _, _⟩) rfl (fun K hK => ?_) AllReadyH.nil
                        go_simp
                        refine (N1 _).mono ?_; rintro e z8 ⟨rfl, y8⟩; first | have al := y8.kept al (fun h => h) | (have hq := sg.size; have al := y8.kept (heap_alloc_new _ _) (fun h => h)) | skip; have sg := hHeld.then y8 (fun _ h => h.elim)
                        refine hK.out _ _ (hHeld.then y8 (fun _ h => h.elim)) (fun hHeld => ?_)
                        clear hK K
                        try simp only [Act.put, List.setIfInBounds_toArray, List.set_cons_zero, List.set_cons_succ]
                        refine wpAnyH_ready (rs := [11]) (by kernel_rfl) (by simp) ?_
                        refine AllReadyH.cons (o := ⟨some 178, _, _, _, _, _⟩) rfl (fun K hK => ?_) AllReadyH.nil
                        go_simp
                        refine (N2 _).mono ?_; rintro e z11 ⟨rfl, y11⟩; first | have al := y11.kept al (fun h => h) | (have hq := sg.size; have al := y11.kept (heap_alloc_new _ _) (fun h => h)) | skip; have sg := hHeld.then y11 (fun _ h => h.elim)
                        refine hK.out _ _ (hHeld.then y11 (fun _ h => h.elim)) (fun hHeld => ?_)
                        clear hK K
                        try simp only [Act.put, List.setIfInBounds_toArray, List.set_cons_zero, List.set_cons_succ]
                        refine wpAnyH_take (i := 12) (oi := ⟨some 179, _, _, _, _, _⟩) (v := ?_) rfl (by kernel_rfl) (by kernel_rfl) (by kernel_rfl) (fun _ _ _ h => h) (Or.inl ⟨by rfl, ?_⟩) (by assumption) ?_
                        rotate_left
                        · (intro wq hSw; (try dsimp only at hSw); go_simp; try with_reducible rfl)
                        try simp only [Act.put, List.setIfInBounds_toArray, List.set_cons_zero, List.set_cons_succ]
                        refine wpAnyH_ready (rs := [14]) (by kernel_rfl) (by simp) ?_
                        refine AllReadyH.cons (o := ⟨none, _, _, _, _, _⟩) rfl (fun K hK => ?_) AllReadyH.nil
                        first | (have da := cells4 al; go_simp) | go_simp
                        refine hK.out _ _ (by first | exact sg.alloc _ | exact (((hHeld.set hq 0 _).set hq 1 _).set hq 2 _).set hq 3 _) (fun hHeld => ?_)
                        clear hK K
                        try simp only [Act.put, List.setIfInBounds_toArray, List.set_cons_zero, List.set_cons_succ]
                        refine wpAnyH_done (by kernel_rfl) ?_ _
                      rotate_left 1
                      all_goals
                        go_wp2_with fail
                        go_meet
                        case rel =>
                          have z1 := hd.new.size
                          have z2 := sg.size
                          first
                            | (have al2 := al
                               have hu := (((hHeld.size)))
                               exact ⟨_, rfl, Nat.le_trans z1 hq, hd.keep hHeld, yd.keep hHeld, gd.keep hHeld, ld.keep hHeld, ((((show c4 _ _ _ _ _ _ from al2).set0 _).set1 _).set2 _).set3 _⟩)
                            | exact ⟨_, rfl, Nat.le_trans z1 z2, hd.keep hHeld, yd.keep hHeld, gd.keep hHeld, ld.keep hHeld, heap_alloc_new _ _⟩
                    case rest =>
                      clear h8 y8 g8 l8 e8 OW N1 N2
                      obtain ⟨Q3, rfl, hQ3, h9, y9, g9, l9, q9⟩ := hcut
                      have P4 := fun w => pickC_any y.den 4 w i4 (by omega) (by omega)
                      have hk4 := pk_lt y.den 4 (by omega)
                      generalize pk y.den 4 = r at *
                      have d9 := act_cells y9
                      go_wp2_with fail
                      refine (P4 _).mono ?_
                      rintro e z1 ⟨rfl, rfl⟩
                      clear P4
                      go_upto_if 183 with (fail)
                      go_cut [] from 183 to 192 (fun wx => ∃ dn : List UInt8, (dn = owL o (pk y.den 2) ∨ dn = vchr (1 - o) (pk y.den 2)) ∧ Prs w wx P n s ∧ bL wx G P ∧ Wys w wx u9 l ∧ cn wx Q3 ⟨dn, y.n, nf, nt⟩)
                      case first =>
                        by_cases hr : r ≤ 1
                        · have e5 : decide (1 < (r : Int)) = false := by simp; omega
                          go_wp2_with fail
                          go_meet
                          case rel => exact ⟨den, .inl hdenH.out, h9, g9, l9, q9⟩
                        · have e5 : decide (1 < (r : Int)) = true := by simp; omega
                          have hr1 : (1 : Int) < (r : Int) := by omega
                          have OW2 := fun w => own_any (1 - o) (by omega) y.den i4 w
                          simp only [em] at OW2
                          have hw4 := (owL_four (1 - o) (pk y.den 2)).2
                          have VO := fun w => vou_any (1 + o) (by show _ < _; omega) (owL (1 - o) (pk y.den 2)) (by omega) w
                          simp only [eo] at VO
                          have hvv : vouL (1 + o) (owL (1 - o) (pk y.den 2)) = vchr (1 - o) (pk y.den 2) := by unfold vchr; rw [show 2 - (1 - o) = 1 + o by omega]
                          rw [hvv] at VO
                          obtain ⟨dv, hdv⟩ : ∃ d, Hid (d = vchr (1 - o) (pk y.den 2)) := ⟨_, rfl⟩
                          rw [← hdv.out] at VO
                          clear hvv hk4 hr
                          generalize owL (1 - o) (pk y.den 2) = ow at *
                          go_wp2_with fail
                          refine (OW2 _).mono ?_
                          rintro e z2 ⟨rfl, y2⟩
                          have h10 := h9.keep y2
                          have g10 := g9.keep y2
                          have l10 := l9.keep y2
                          have q10 := q9.keep y2
                          clear h9 g9 l9 q9 y9 d9 y2 OW2
                          go_wp2_with fail
                          refine (VO _).mono ?_
                          rintro e z3 ⟨rfl, y3⟩
                          have h11 := h10.keep y3
                          have g11 := g10.keep y3
                          have l11 := l10.keep y3
                          have q11 := q10.keep y3
                          clear h10 g10 l10 q10 y3 VO
                          have dc := cells4 (show c4 _ _ _ _ _ _ from q11)
                          have kS : Keeps (fun k => k = Q3) z3 (z3.setCell ⟨Q3, 0, none⟩ (.string ⟨dv.toArray⟩)) := (Keeps.refl (fun k => k = Q3) z3).set1 0 _
                          have h12 := h11.stored q11 (by decide) hQ3 kS
                          have g12 : bL _ G P := far_type g11 q11 (by decide) kS
                          have l12 := l11.far q11 (by decide) kS
                          have q12 : cn (z3.setCell ⟨Q3, 0, none⟩ (.string ⟨dv.toArray⟩)) Q3 ⟨dv, y.n, nf, nt⟩ := (show c4 _ _ _ _ _ _ from q11).set0 _
                          go_wp2_with fail
                          go_meet
                          case rel => exact ⟨dv, .inr hdv.out, h12, g12, l12, q12⟩
                      case rest =>
                        clear h9 g9 l9 q9 y9 d9 hdenH hk4
                        obtain ⟨dn, hdn0, h9, g9, l9, q9⟩ := hcut
                        have hdn := Lib.hid hdn0
                        clear hdn0
                        generalize den = den0 at *
                        generalize dn = den at *
                        revert h9 g9 l9 q9
                        generalize wc = wx
                        intro h9 g9 l9 q9
                        have hd := h9.drew
                        have gd := g9.drew
                        have ld := l9.drew
                        have qd := q9.drew
                        clear h9 g9 l9 q9
                        have OUTC := fun z (g : Prs w z P n s) => g.act (o := o) ho (fun ma sa hb => out_any (P o) ma sa n (s o) (1 + o) (by show _ < _; omega) ⟨den, y.n, nf, nt⟩ i6 (by omega) z hb)
                        simp only [eo] at OUTC
                        have hKI := fun hE => ki_out hI ltm ho k2 (c := ⟨den, y.n, nf, nt⟩) hnfH.out hntH.out i6 hdn.out hE
                        have hNo := fun hE => out_no (s := s o) (ch := 1 + o) (c := ⟨den, y.n, nf, nt⟩) hE
                        generalize outE (s o) (1 + o) ⟨den, y.n, nf, nt⟩ = E at *
                        generalize outS (s o) (1 + o) ⟨den, y.n, nf, nt⟩ = S2 at *
                        clear hnfH hntH hdn
                        by_cases hE : E = 0
                        · subst hE
                          replace hKI := hKI rfl
                          clear hNo
                          go_wp2_with fail
                          refine wp_region_held_drew (S := (fun w' => bL w' G P ∧ cn w' Q3 ⟨den, y.n, nf, nt⟩)) (by kernel_rfl) ?_ (fun hHeld => ?_)
                          · exact ⟨gd, qd⟩
                          refine wpAnyH_take (i := 0) (oi := ⟨some 192, _, _, _, _, _⟩) (v := ?_) rfl (by kernel_rfl) (by kernel_rfl) (by kernel_rfl) (fun _ _ _ h => h) (Or.inl ⟨by rfl, ?_⟩) (by assumption) ?_
                          rotate_left
                          · (intro wq hSw; (try dsimp only at hSw); go_simp; try with_reducible rfl)
                          try simp only [Act.put, List.setIfInBounds_toArray, List.set_cons_zero, List.set_cons_succ]
                          refine wpAnyH_take (i := 1) (oi := ⟨some 193, _, _, _, _, _⟩) (v := ?_) rfl (by kernel_rfl) (by kernel_rfl) (by kernel_rfl) (fun _ _ _ h => h) (Or.inl ⟨by rfl, ?_⟩) (by assumption) ?_
                          rotate_left
                          · (intro wq hSw; (try dsimp only at hSw); go_simp; try with_reducible rfl)
                          try simp only [Act.put, List.setIfInBounds_toArray, List.set_cons_zero, List.set_cons_succ]
                          refine wpAnyH_take (i := 2) (oi := ⟨some 194, _, _, _, _, _⟩) (v := ?_) rfl (by kernel_rfl) (by kernel_rfl) (by kernel_rfl) (fun _ _ _ h => h) (Or.inl ⟨by rfl, ?_⟩) (by assumption) ?_
                          rotate_left
                          · (intro wq hSw; (try dsimp only at hSw); go_simp; try with_reducible rfl)
                          try simp only [Act.put, List.setIfInBounds_toArray, List.set_cons_zero, List.set_cons_succ]
                          refine wpAnyH_take (i := 3) (oi := ⟨some 195, _, _, _, _, _⟩) (v := ?_) rfl (by kernel_rfl) (by kernel_rfl) (by kernel_rfl) (fun _ _ _ h => h) (Or.inl ⟨by rfl, ?_⟩) (by assumption) ?_
                          rotate_left
                          · (intro wq hSw; (try dsimp only at hSw); have d := hSw.1.cell ho; go_simp; try with_reducible rfl)
                          try simp only [Act.put, List.setIfInBounds_toArray, List.set_cons_zero, List.set_cons_succ]
                          refine wpAnyH_take (i := 4) (oi := ⟨some 196, _, _, _, _, _⟩) (v := ?_) rfl (by kernel_rfl) (by kernel_rfl) (by kernel_rfl) (fun _ _ _ h => h) (Or.inl ⟨by rfl, ?_⟩) (by assumption) ?_
                          rotate_left
                          · (intro wq hSw; (try dsimp only at hSw); go_simp; try with_reducible rfl)
                          try simp only [Act.put, List.setIfInBounds_toArray, List.set_cons_zero, List.set_cons_succ]
                          refine wpAnyH_take (i := 5) (oi := ⟨some 197, _, _, _, _, _⟩) (v := ?_) rfl (by kernel_rfl) (by kernel_rfl) (by kernel_rfl) (fun _ _ _ h => h) (Or.inl ⟨by rfl, ?_⟩) (by assumption) ?_
                          rotate_left
                          · (intro wq hSw; (try dsimp only at hSw); have d := hSw.2.cells; go_simp; try with_reducible rfl)
                          try simp only [Act.put, List.setIfInBounds_toArray, List.set_cons_zero, List.set_cons_succ]
                          refine wpAnyH_ready (rs := [6]) (by kernel_rfl) (by simp) ?_
                          refine AllReadyH.cons (o := ⟨some 198, _, _, _, _, _⟩) rfl (fun K hK => ?_) AllReadyH.nil
                          go_simp
                          refine (OUTC _ hd).mono ?_; rintro e z6 ⟨rfl, h6, y6⟩
                          refine hK.out _ _ (⟨hHeld.1.kc y6, hHeld.2.kc y6⟩) (fun hHeld => ?_)
                          clear hK K
                          try simp only [Act.put, List.setIfInBounds_toArray, List.set_cons_zero, List.set_cons_succ]
                          refine wpAnyH_take (i := 7) (oi := ⟨some 199, _, _, _, _, _⟩) (v := ?_) rfl (by kernel_rfl) (by kernel_rfl) (by kernel_rfl) (fun _ _ _ h => h) (Or.inl ⟨by rfl, ?_⟩) (by assumption) ?_
                          rotate_left
                          · (intro wq hSw; (try dsimp only at hSw); go_simp; try with_reducible rfl)
                          try simp only [Act.put, List.setIfInBounds_toArray, List.set_cons_zero, List.set_cons_succ]
                          refine wpAnyH_done (by kernel_rfl) ?_ _
                          obtain ⟨g6, q6⟩ := hHeld
                          have l6 := ld.kc y6
                          clear OUTC hd gd ld qd y6
                          have dq := q6.cells
                          obtain ⟨i0', hi, hz0, hz1, hz2⟩ := info_partsW
                          have hz6 := h6.new.size
                          go_wp2_with (first | ((with_reducible refine way_slice (o := ⟨some 204, _, _, _, _, _⟩) ?hg 203 ?ho ⟨o, ⟨den, y.n, nf, nt⟩, false⟩ ?hx ?hm); (case hg => rfl); (case ho => rfl); (case hx => rfl); intro zA q7 hzA hq7; obtain ⟨F1, F2, F3, F4⟩ := way_laid l6 hz6 ⟨o, ⟨den, y.n, nf, nt⟩, false⟩ zA q7 hzA hq7; clear hzA hq7) | (at_builtin; go_loud (refine wpList_app _ rfl _ _ 52 52 rfl w.heap.size 54 i0' _ 6 72 Try.underlying52 hi hz0 hz1 hz2 rfl _ l.length (flatW l) rfl F1 _ 1 _ rfl F2 ?c1 ?c2 F3 ?_)))
                          case c1 => unfold maxLen; omega
                          case c2 => omega
                          intro v' w3 hown hg3 hb3
                          have h7 := (h6.keep F4).grownW (l6.keep F4) hg3
                          have g7 := (g6.keep F4).grownW (l6.keep F4) hg3
                          have l7 : Wys w w3 v' (l ++ [⟨o, ⟨den, y.n, nf, nt⟩, false⟩]) := Wys.snoc hown rfl rfl
                          clear hown hg3 hb3 F1 F2 F3 F4 h6 g6 l6 q6 dq
                          go_wp2_with fail
                          go_meet
                          case rel => exact ⟨n + 2, _, _, by omega, by simp; omega, hKI, h7, g7, l7⟩
                        · have e6 : (E == 0) = false := by simpa using hE
                          have hS := hNo hE
                          subst hS
                          clear hKI hNo
                          go_wp2_with fail
                          refine wp_region_held_drew (S := (fun w' => bL w' G P ∧ cn w' Q3 ⟨den, y.n, nf, nt⟩)) (by kernel_rfl) ?_ (fun hHeld => ?_)
                          · exact ⟨gd, qd⟩
                          refine wpAnyH_take (i := 0) (oi := ⟨some 192, _, _, _, _, _⟩) (v := ?_) rfl (by kernel_rfl) (by kernel_rfl) (by kernel_rfl) (fun _ _ _ h => h) (Or.inl ⟨by rfl, ?_⟩) (by assumption) ?_
                          rotate_left
                          · (intro wq hSw; (try dsimp only at hSw); go_simp; try with_reducible rfl)
                          try simp only [Act.put, List.setIfInBounds_toArray, List.set_cons_zero, List.set_cons_succ]
                          refine wpAnyH_take (i := 1) (oi := ⟨some 193, _, _, _, _, _⟩) (v := ?_) rfl (by kernel_rfl) (by kernel_rfl) (by kernel_rfl) (fun _ _ _ h => h) (Or.inl ⟨by rfl, ?_⟩) (by assumption) ?_
                          rotate_left
                          · (intro wq hSw; (try dsimp only at hSw); go_simp; try with_reducible rfl)
                          try simp only [Act.put, List.setIfInBounds_toArray, List.set_cons_zero, List.set_cons_succ]
                          refine wpAnyH_take (i := 2) (oi := ⟨some 194, _, _, _, _, _⟩) (v := ?_) rfl (by kernel_rfl) (by kernel_rfl) (by kernel_rfl) (fun _ _ _ h => h) (Or.inl ⟨by rfl, ?_⟩) (by assumption) ?_
                          rotate_left
                          · (intro wq hSw; (try dsimp only at hSw); go_simp; try with_reducible rfl)
                          try simp only [Act.put, List.setIfInBounds_toArray, List.set_cons_zero, List.set_cons_succ]
                          refine wpAnyH_take (i := 3) (oi := ⟨some 195, _, _, _, _, _⟩) (v := ?_) rfl (by kernel_rfl) (by kernel_rfl) (by kernel_rfl) (fun _ _ _ h => h) (Or.inl ⟨by rfl, ?_⟩) (by assumption) ?_
                          rotate_left
                          · (intro wq hSw; (try dsimp only at hSw); have d := hSw.1.cell ho; go_simp; try with_reducible rfl)
                          try simp only [Act.put, List.setIfInBounds_toArray, List.set_cons_zero, List.set_cons_succ]
                          refine wpAnyH_take (i := 4) (oi := ⟨some 196, _, _, _, _, _⟩) (v := ?_) rfl (by kernel_rfl) (by kernel_rfl) (by kernel_rfl) (fun _ _ _ h => h) (Or.inl ⟨by rfl, ?_⟩) (by assumption) ?_
                          rotate_left
                          · (intro wq hSw; (try dsimp only at hSw); go_simp; try with_reducible rfl)
                          try simp only [Act.put, List.setIfInBounds_toArray, List.set_cons_zero, List.set_cons_succ]
                          refine wpAnyH_take (i := 5) (oi := ⟨some 197, _, _, _, _, _⟩) (v := ?_) rfl (by kernel_rfl) (by kernel_rfl) (by kernel_rfl) (fun _ _ _ h => h) (Or.inl ⟨by rfl, ?_⟩) (by assumption) ?_
                          rotate_left
                          · (intro wq hSw; (try dsimp only at hSw); have d := hSw.2.cells; go_simp; try with_reducible rfl)
                          try simp only [Act.put, List.setIfInBounds_toArray, List.set_cons_zero, List.set_cons_succ]
                          refine wpAnyH_ready (rs := [6]) (by kernel_rfl) (by simp) ?_
                          refine AllReadyH.cons (o := ⟨some 198, _, _, _, _, _⟩) rfl (fun K hK => ?_) AllReadyH.nil
                          go_simp
                          refine (OUTC _ hd).mono ?_; rintro e z6 ⟨rfl, h6, y6⟩
                          refine hK.out _ _ (⟨hHeld.1.kc y6, hHeld.2.kc y6⟩) (fun hHeld => ?_)
                          clear hK K
                          try simp only [Act.put, List.setIfInBounds_toArray, List.set_cons_zero, List.set_cons_succ]
                          refine wpAnyH_take (i := 7) (oi := ⟨some 199, _, _, _, _, _⟩) (v := ?_) rfl (by kernel_rfl) (by kernel_rfl) (by kernel_rfl) (fun _ _ _ h => h) (Or.inl ⟨by rfl, ?_⟩) (by assumption) ?_
                          rotate_left
                          · (intro wq hSw; (try dsimp only at hSw); go_simp; try with_reducible rfl)
                          try simp only [Act.put, List.setIfInBounds_toArray, List.set_cons_zero, List.set_cons_succ]
                          refine wpAnyH_done (by kernel_rfl) ?_ _
                          obtain ⟨g6, q6⟩ := hHeld
                          have l6 := ld.kc y6
                          rw [set2_same] at h6
                          clear OUTC hd gd ld qd y6 q6
                          go_wp2_with fail
                          go_meet
                          case rel => exact ⟨n + 2, s, l, by omega, by omega, hI, h6, g6, l6⟩
                · have q3 : decide (kk ≤ 2) = false := by simp; omega
                  by_cases hk6 : kk = 6
                  · subst hk6
                    as_aux_lemma =>
                      have A3 := fun w => pickC_any y.fr 3 w i2 (by omega) (by omega)
                      have B3 := fun w => pickC_any y.to 3 w i3 (by omega) (by omega)
                      have ka := pk_lt y.fr 3 (by omega)
                      have kb := pk_lt y.to 3 (by omega)
                      have k2 := pk_lt y.den 2 (by omega)
                      generalize pk y.fr 3 = a at *
                      generalize pk y.to 3 = b at *
                      have N1 := fun w => name_any (a : Int) ⟨by omega, by omega⟩ w
                      have N2 := fun w => name_any (b : Int) ⟨by omega, by omega⟩ w
                      have OW := fun w => own_any o ho y.den i4 w
                      have SC := fun z (g : Prs w z P n s) => g.act (o := o) ho (fun ma sa hb => send_any (P o) ma sa n (s o) (nmL (pk (a : Int) 6)) (nmL (pk (b : Int) 6)) (owL o (pk y.den 2)) y.n i6 (by omega) z hb)
                      have hKI := ki_send hI ltm ho k2 (nm_three ka) (nm_three kb) y.n
                      generalize nmL (pk (a : Int) 6) = nf at *
                      generalize nmL (pk (b : Int) 6) = nt at *
                      generalize owL o (pk y.den 2) = den at *
                      have hd := h8.drew
                      have yd := y8.drew
                      have gd := g8.drew
                      have ld := l8.drew
                      clear h8 y8 g8 l8 e8
                      go_wp2_with fail
                      refine wp_region_held_drew (S := (fun w' => aY w' q y ∧ bL w' G P)) (by kernel_rfl) ?_ (fun hHeld => ?_)
                      · exact ⟨yd, gd⟩
                      refine wpAnyH_take (i := 0) (oi := ⟨some 208, _, _, _, _, _⟩) (v := ?_) rfl (by kernel_rfl) (by kernel_rfl) (by kernel_rfl) (fun _ _ _ h => h) (Or.inl ⟨by rfl, ?_⟩) (by assumption) ?_
                      rotate_left
                      · (intro wq hSw; (try dsimp only at hSw); go_simp; try with_reducible rfl)
                      try simp only [Act.put, List.setIfInBounds_toArray, List.set_cons_zero, List.set_cons_succ]
                      refine wpAnyH_take (i := 1) (oi := ⟨some 209, _, _, _, _, _⟩) (v := ?_) rfl (by kernel_rfl) (by kernel_rfl) (by kernel_rfl) (fun _ _ _ h => h) (Or.inl ⟨by rfl, ?_⟩) (by assumption) ?_
                      rotate_left
                      · (intro wq hSw; (try dsimp only at hSw); go_simp; try with_reducible rfl)
                      try simp only [Act.put, List.setIfInBounds_toArray, List.set_cons_zero, List.set_cons_succ]
                      refine wpAnyH_take (i := 2) (oi := ⟨some 210, _, _, _, _, _⟩) (v := ?_) rfl (by kernel_rfl) (by kernel_rfl) (by kernel_rfl) (fun _ _ _ h => h) (Or.inl ⟨by rfl, ?_⟩) (by assumption) ?_
                      rotate_left
                      · (intro wq hSw; (try dsimp only at hSw); go_simp; try with_reducible rfl)
                      try simp only [Act.put, List.setIfInBounds_toArray, List.set_cons_zero, List.set_cons_succ]
                      refine wpAnyH_take (i := 3) (oi := ⟨some 211, _, _, _, _, _⟩) (v := ?_) rfl (by kernel_rfl) (by kernel_rfl) (by kernel_rfl) (fun _ _ _ h => h) (Or.inl ⟨by rfl, ?_⟩) (by assumption) ?_
                      rotate_left
                      · (intro wq hSw; (try dsimp only at hSw); have d := hSw.2.cell ho; go_simp; try with_reducible rfl)
                      try simp only [Act.put, List.setIfInBounds_toArray, List.set_cons_zero, List.set_cons_succ]
                      refine wpAnyH_take (i := 4) (oi := ⟨some 212, _, _, _, _, _⟩) (v := ?_) rfl (by kernel_rfl) (by kernel_rfl) (by kernel_rfl) (fun _ _ _ h => h) (Or.inl ⟨by rfl, ?_⟩) (by assumption) ?_
                      rotate_left
                      · (intro wq hSw; (try dsimp only at hSw); go_simp; try with_reducible rfl)
                      try simp only [Act.put, List.setIfInBounds_toArray, List.set_cons_zero, List.set_cons_succ]
                      refine wpAnyH_take (i := 5) (oi := ⟨some 213, _, _, _, _, _⟩) (v := ?_) rfl (by kernel_rfl) (by kernel_rfl) (by kernel_rfl) (fun _ _ _ h => h) (Or.inl ⟨by rfl, ?_⟩) (by assumption) ?_
                      rotate_left
                      · (intro wq hSw; (try dsimp only at hSw); have d := act_cells hSw.1; go_simp; try with_reducible rfl)
                      try simp only [Act.put, List.setIfInBounds_toArray, List.set_cons_zero, List.set_cons_succ]
                      refine wpAnyH_take (i := 8) (oi := ⟨some 216, _, _, _, _, _⟩) (v := ?_) rfl (by kernel_rfl) (by kernel_rfl) (by kernel_rfl) (fun _ _ _ h => h) (Or.inl ⟨by rfl, ?_⟩) (by assumption) ?_
                      rotate_left
                      · (intro wq hSw; (try dsimp only at hSw); go_simp; try with_reducible rfl)
                      try simp only [Act.put, List.setIfInBounds_toArray, List.set_cons_zero, List.set_cons_succ]
                      refine wpAnyH_take (i := 9) (oi := ⟨some 217, _, _, _, _, _⟩) (v := ?_) rfl (by kernel_rfl) (by kernel_rfl) (by kernel_rfl) (fun _ _ _ h => h) (Or.inl ⟨by rfl, ?_⟩) (by assumption) ?_
                      rotate_left
                      · (intro wq hSw; (try dsimp only at hSw); have d := act_cells hSw.1; go_simp; try with_reducible rfl)
                      try simp only [Act.put, List.setIfInBounds_toArray, List.set_cons_zero, List.set_cons_succ]
                      refine wpAnyH_take (i := 12) (oi := ⟨some 220, _, _, _, _, _⟩) (v := ?_) rfl (by kernel_rfl) (by kernel_rfl) (by kernel_rfl) (fun _ _ _ h => h) (Or.inl ⟨by rfl, ?_⟩) (by assumption) ?_
                      rotate_left
                      · (intro wq hSw; (try dsimp only at hSw); go_simp; try with_reducible rfl)
                      try simp only [Act.put, List.setIfInBounds_toArray, List.set_cons_zero, List.set_cons_succ]
                      refine wpAnyH_take (i := 13) (oi := ⟨some 221, _, _, _, _, _⟩) (v := ?_) rfl (by kernel_rfl) (by kernel_rfl) (by kernel_rfl) (fun _ _ _ h => h) (Or.inl ⟨by rfl, ?_⟩) (by assumption) ?_
                      rotate_left
                      · (intro wq hSw; (try dsimp only at hSw); go_simp; try with_reducible rfl)
                      try simp only [Act.put, List.setIfInBounds_toArray, List.set_cons_zero, List.set_cons_succ]
                      refine wpAnyH_take (i := 14) (oi := ⟨some 222, _, _, _, _, _⟩) (v := ?_) rfl (by kernel_rfl) (by kernel_rfl) (by kernel_rfl) (fun _ _ _ h => h) (Or.inl ⟨by rfl, ?_⟩) (by assumption) ?_
                      rotate_left
                      · (intro wq hSw; (try dsimp only at hSw); have d := act_cells hSw.1; go_simp; try with_reducible rfl)
                      try simp only [Act.put, List.setIfInBounds_toArray, List.set_cons_zero, List.set_cons_succ]
                      refine wpAnyH_take (i := 16) (oi := ⟨some 224, _, _, _, _, _⟩) (v := ?_) rfl (by kernel_rfl) (by kernel_rfl) (by kernel_rfl) (fun _ _ _ h => h) (Or.inl ⟨by rfl, ?_⟩) (by assumption) ?_
                      rotate_left
                      · (intro wq hSw; (try dsimp only at hSw); go_simp; try with_reducible rfl)
                      try simp only [Act.put, List.setIfInBounds_toArray, List.set_cons_zero, List.set_cons_succ]
                      refine wpAnyH_take (i := 17) (oi := ⟨some 225, _, _, _, _, _⟩) (v := ?_) rfl (by kernel_rfl) (by kernel_rfl) (by kernel_rfl) (fun _ _ _ h => h) (Or.inl ⟨by rfl, ?_⟩) (by assumption) ?_
                      rotate_left
                      · (intro wq hSw; (try dsimp only at hSw); have d := act_cells hSw.1; go_simp; try with_reducible rfl)
                      try simp only [Act.put, List.setIfInBounds_toArray, List.set_cons_zero, List.set_cons_succ]
                      refine wpAnyH_ready (rs := [6]) (by kernel_rfl) (by simp) ?_
                      refine AllReadyH.cons (o := ⟨some 214, _, _, _, _, _⟩) rfl (fun K hK => ?_) AllReadyH.nil
                      go_simp
                      refine (A3 _).mono ?_; rintro e z6 ⟨rfl, rfl⟩
                      refine hK.out _ _ hHeld (fun hHeld => ?_)
                      clear hK K
                      try simp only [Act.put, List.setIfInBounds_toArray, List.set_cons_zero, List.set_cons_succ]
                      refine wpAnyH_ready (rs := [7]) (by kernel_rfl) (by simp) ?_
                      refine AllReadyH.cons (o := ⟨some 215, _, _, _, _, _⟩) rfl (fun K hK => ?_) AllReadyH.nil
                      go_simp
                      refine (N1 _).mono ?_; rintro e z7 ⟨rfl, y7⟩; have h7 := hd.keep y7; have l7 := ld.keep y7
                      refine hK.out _ _ (⟨hHeld.1.keep y7, hHeld.2.keep y7⟩) (fun hHeld => ?_)
                      clear hK K
                      try simp only [Act.put, List.setIfInBounds_toArray, List.set_cons_zero, List.set_cons_succ]
                      refine wpAnyH_ready (rs := [10]) (by kernel_rfl) (by simp) ?_
                      refine AllReadyH.cons (o := ⟨some 218, _, _, _, _, _⟩) rfl (fun K hK => ?_) AllReadyH.nil
                      go_simp
                      refine (B3 _).mono ?_; rintro e z10 ⟨rfl, rfl⟩
                      refine hK.out _ _ hHeld (fun hHeld => ?_)
                      clear hK K
                      try simp only [Act.put, List.setIfInBounds_toArray, List.set_cons_zero, List.set_cons_succ]
                      refine wpAnyH_ready (rs := [11]) (by kernel_rfl) (by simp) ?_
                      refine AllReadyH.cons (o := ⟨some 219, _, _, _, _, _⟩) rfl (fun K hK => ?_) AllReadyH.nil
                      go_simp
                      refine (N2 _).mono ?_; rintro e z11 ⟨rfl, y11⟩; have h11 := h7.keep y11; have l11 := l7.keep y11
                      refine hK.out _ _ (⟨hHeld.1.keep y11, hHeld.2.keep y11⟩) (fun hHeld => ?_)
                      clear hK K
                      try simp only [Act.put, List.setIfInBounds_toArray, List.set_cons_zero, List.set_cons_succ]
                      refine wpAnyH_ready (rs := [15]) (by kernel_rfl) (by simp) ?_
                      refine AllReadyH.cons (o := ⟨some 223, _, _, _, _, _⟩) rfl (fun K hK => ?_) AllReadyH.nil
                      go_simp
                      refine (OW _).mono ?_; rintro e z15 ⟨rfl, y15⟩; have h15 := h11.keep y15; have l15 := l11.keep y15
                      refine hK.out _ _ (⟨hHeld.1.keep y15, hHeld.2.keep y15⟩) (fun hHeld => ?_)
                      clear hK K
                      try simp only [Act.put, List.setIfInBounds_toArray, List.set_cons_zero, List.set_cons_succ]
                      refine wpAnyH_ready (rs := [18]) (by kernel_rfl) (by simp) ?_
                      refine AllReadyH.cons (o := ⟨some 226, _, _, _, _, _⟩) rfl (fun K hK => ?_) AllReadyH.nil
                      go_simp
                      refine (SC _ h15).mono ?_; rintro e z18 ⟨rfl, h18, y18⟩; have l18 := l15.kc y18
                      refine hK.out _ _ (⟨hHeld.1.kc y18, hHeld.2.kc y18⟩) (fun hHeld => ?_)
                      clear hK K
                      try simp only [Act.put, List.setIfInBounds_toArray, List.set_cons_zero, List.set_cons_succ]
                      refine wpAnyH_done (by kernel_rfl) ?_ _
                      have g18 := hHeld.2
                      clear hHeld SC A3 B3 N1 N2 OW y7 y11 y15 h7 h11 h15 l7 l11 l15 hd yd gd ld y18
                      go_wp2_with fail
                      go_meet
                      case rel => exact ⟨n + 2, _, l, by omega, by omega, hKI, h18, g18, l18⟩
                  · have q6 : ((kk : Int) == 6) = false := by simp; omega
                    obtain ⟨la', lc, hv, hlne⟩ := l8.shape
                    subst hv
                    obtain ⟨L, hLL⟩ : ∃ q, Hid (l.length = q) := ⟨_, rfl⟩
                    have hLc : Hid (L ≤ lc) := by rw [Hid]; rw [← hLL.out]; exact wys_cap l8
                    rw [hLL.out] at l8 ⊢
                    have hL1 : L ≤ k := by rw [← hLL.out]; exact hlk
                    by_cases hL0 : L = 0
                    · have e0 : ((L : Int) == 0) = true := by simp [hL0]
                      go_wp2_with fail
                      go_roundw
                      case rel => exact ⟨k + 1, n, s, l, by omega, by omega, by omega, by omega, by go_num, hI, h8, g8, by unfold Wys; rw [hLL.out]; unfold Wys at l8; rw [hLL.out] at l8; exact l8⟩
                      case measure => simp [intOf]; omega
                    · have e0 : ((L : Int) == 0) = false := by simp; omega
                      obtain ⟨ga, rfl, hga, hgw, cga, hgc⟩ := hlne (by intro e; have := hLL.out; rw [e] at this; simp at this; omega)
                      have WH := fun w => pickC_any y.which L w i5 (by omega) (by omega)
                      have hj := pk_lt y.which L (by omega)
                      generalize pk y.which L = j at *
                      obtain ⟨x, hx⟩ : ∃ x, l[j]? = some x := ⟨_, List.getElem?_eq_getElem (by rw [hLL.out]; exact hj)⟩
                      obtain ⟨d0, d1, d2, d3, d4, d5⟩ := Wys.at l8 hx
                      have hjL : (j : Int) < (L : Int) := by omega
                      have hj0 : (0 : Int) ≤ (j : Int) := Int.natCast_nonneg _
                      go_wp2_with fail
                      refine (WH _).mono ?_
                      rintro e z1 ⟨rfl, rfl⟩
                      clear WH
                      have k9 := (New.refl w8).alloc (.cells (wyV x).toArray 54)
                      have x9 : wW (w8.alloc (.cells (wyV x).toArray 54)) w8.heap.size x := heap_alloc_new w8 _
                      have h9 := h8.keep k9
                      have y9 := y8.keep k9
                      have g9 := g8.keep k9
                      have l9 := l8.keep k9
                      have hgn : ga ≠ w8.heap.size := by omega
                      unfold wyV at k9 x9 h9 y9 g9 l9
                      go_upto_region 25 with (fail)
                      clear h8 y8 g8 l8 e8 k9 d0 d1 d2 d3 d4 d5
                      revert hgn x9 h9 y9 g9 l9
                      generalize w8.alloc _ = W9
                      generalize w8.heap.size = Qw
                      intro x9 h9 y9 g9 l9 hgn
                      replace x9 : wW W9 Qw x := x9
                      obtain ⟨hf, hcc, -, -, hu, -⟩ := hI.2 x (List.mem_of_getElem? hx)
                      have ef : ((1 + x.fr : Nat) : Int) = 1 + (x.fr : Int) := by omega
                      have ef1 : ((1 - x.fr : Nat) : Int) = 1 - (x.fr : Int) := by omega
                      have ef2 : ((2 - x.fr : Nat) : Int) = 2 - (x.fr : Int) := by omega
                      have hf0 : (0 : Int) ≤ (x.fr : Int) := Int.natCast_nonneg _
                      have hf2 : (x.fr : Int) < 2 := by omega
                      have wi1 : IntKind.i64.wrap (1 + (x.fr : Int)) = 1 + (x.fr : Int) := IntWalk.i64_in _ ⟨by omega, by omega⟩
                      have wu1 : IntKind.u64.wrap (1 + (x.fr : Int)) = 1 + (x.fr : Int) := IntWalk.u64_in _ ⟨by omega, by omega⟩
                      have wi2 : IntKind.i64.wrap (1 - (x.fr : Int)) = 1 - (x.fr : Int) := IntWalk.i64_in _ ⟨by omega, by omega⟩
                      have wi3 : IntKind.i64.wrap (2 - (x.fr : Int)) = 2 - (x.fr : Int) := IntWalk.i64_in _ ⟨by omega, by omega⟩
                      have wu3 : IntKind.u64.wrap (2 - (x.fr : Int)) = 2 - (x.fr : Int) := IntWalk.u64_in _ ⟨by omega, by omega⟩
                      have ef1n : (1 - (x.fr : Int)).toNat = 1 - x.fr := by omega
                      have ef1a : (0 : Int) ≤ 1 - (x.fr : Int) := by omega
                      have ef1b : 1 - (x.fr : Int) < 2 := by omega
                      have ef1c : (x.fr : Int) ≤ 1 := by omega
                      go_cut [103] from 96 to 104 (fun v wx => v = .bool (decide (kk = 5) || x.failed) ∧ Prs w wx P n s ∧ bL wx G P ∧ Wys w wx (.slice (some ⟨ga, 0, none⟩) L lc) l ∧ wW wx Qw x)
                      case first =>
                        have dx := x9.cells
                        have dy := act_cells y9
                        by_cases hk5 : kk = 5
                        · subst hk5
                          go_wp2_with fail
                          refine (W7 _).mono ?_
                          rintro e z1 ⟨rfl, rfl⟩
                          go_wp2_with fail
                          go_meet
                          case rel => exact ⟨rfl, h9, g9, l9, x9⟩
                        · have q5 : ((kk : Int) == 5) = false := by simp; omega
                          have q4 : decide (kk = 5) = false := by simp [hk5]
                          go_wp2_with fail
                          refine (W7 _).mono ?_
                          rintro e z1 ⟨rfl, rfl⟩
                          go_wp2_with fail
                          go_meet
                          case rel => exact ⟨by rw [q4]; rfl, h9, g9, l9, x9⟩
                      case rest =>
                        clear x9 h9 y9 g9 l9 W7
                        obtain ⟨rfl, h9, g9, l9, x9⟩ := hcut
                        generalize (decide (kk = 5) || x.failed) = B at *
                        have hd := h9.drew
                        have gd := g9.drew
                        have ld := l9.drew
                        have xd := x9.drew
                        clear h9 g9 l9 x9
                        rcases B with _ | _
                        · as_aux_lemma =>
                            have IC := fun z (g : Prs w z P n s) => g.act (o := 1 - x.fr) (by omega) (fun ma sa hb => in_any (P (1 - x.fr)) ma sa n (s (1 - x.fr)) (2 - x.fr) (1 + x.fr) (by show _ < _; omega) (by show _ < _; omega) x.c hu (by omega) z hb)
                            obtain ⟨ki1, ki2⟩ := ki_in hI ltm hx
                            have hno := fun hE => in_no (s := s (1 - x.fr)) (ch := 2 - x.fr) (pe := 1 + x.fr) (c := x.c) hE
                            simp only [ef, ef2] at IC
                            generalize inE (s (1 - x.fr)) (2 - x.fr) (1 + x.fr) x.c = E at *
                            generalize inS (s (1 - x.fr)) (2 - x.fr) (1 + x.fr) x.c = S2 at *
                            go_wp2_with fail
                            refine wp_region_held_drew (S := (fun w' => bL w' G P ∧ wW w' Qw x)) (by kernel_rfl) ?_ (fun hHeld => ?_)
                            · exact ⟨gd, xd⟩
                            refine wpAnyH_take (i := 0) (oi := ⟨some 117, _, _, _, _, _⟩) (v := ?_) rfl (by kernel_rfl) (by kernel_rfl) (by kernel_rfl) (fun _ _ _ h => h) (Or.inl ⟨by rfl, ?_⟩) (by assumption) ?_
                            rotate_left
                            · (intro wq hSw; (try dsimp only at hSw); go_simp; try with_reducible rfl)
                            try simp only [Act.put, List.setIfInBounds_toArray, List.set_cons_zero, List.set_cons_succ]
                            refine wpAnyH_take (i := 1) (oi := ⟨some 118, _, _, _, _, _⟩) (v := ?_) rfl (by kernel_rfl) (by kernel_rfl) (by kernel_rfl) (fun _ _ _ h => h) (Or.inl ⟨by rfl, ?_⟩) (by assumption) ?_
                            rotate_left
                            · (intro wq hSw; (try dsimp only at hSw); go_simp; try with_reducible rfl)
                            try simp only [Act.put, List.setIfInBounds_toArray, List.set_cons_zero, List.set_cons_succ]
                            refine wpAnyH_take (i := 2) (oi := ⟨some 119, _, _, _, _, _⟩) (v := ?_) rfl (by kernel_rfl) (by kernel_rfl) (by kernel_rfl) (fun _ _ _ h => h) (Or.inl ⟨by rfl, ?_⟩) (by assumption) ?_
                            rotate_left
                            · (intro wq hSw; (try dsimp only at hSw); have d := hSw.2.cells; go_simp; try with_reducible rfl)
                            try simp only [Act.put, List.setIfInBounds_toArray, List.set_cons_zero, List.set_cons_succ]
                            refine wpAnyH_take (i := 3) (oi := ⟨some 120, _, _, _, _, _⟩) (v := ?_) rfl (by kernel_rfl) (by kernel_rfl) (by kernel_rfl) (fun _ _ _ h => h) (Or.inl ⟨by rfl, ?_⟩) (by assumption) ?_
                            rotate_left
                            · (intro wq hSw; (try dsimp only at hSw); go_simp; try with_reducible rfl)
                            try simp only [Act.put, List.setIfInBounds_toArray, List.set_cons_zero, List.set_cons_succ]
                            refine wpAnyH_take (i := 4) (oi := ⟨some 121, _, _, _, _, _⟩) (v := ?_) rfl (by kernel_rfl) (by kernel_rfl) (by kernel_rfl) (fun _ _ _ h => h) (Or.inl ⟨by rfl, ?_⟩) (by assumption) ?_
                            rotate_left
                            · (intro wq hSw; (try dsimp only at hSw); go_simp; try with_reducible rfl)
                            try simp only [Act.put, List.setIfInBounds_toArray, List.set_cons_zero, List.set_cons_succ]
                            refine wpAnyH_take (i := 5) (oi := ⟨some 122, _, _, _, _, _⟩) (v := ?_) rfl (by kernel_rfl) (by kernel_rfl) (by kernel_rfl) (fun _ _ _ h => h) (Or.inl ⟨by rfl, ?_⟩) (by assumption) ?_
                            rotate_left
                            · (intro wq hSw; (try dsimp only at hSw); have d := hSw.1.cell (o := 1 - x.fr) (by omega); go_simp; try with_reducible rfl)
                            try simp only [Act.put, List.setIfInBounds_toArray, List.set_cons_zero, List.set_cons_succ]
                            refine wpAnyH_take (i := 6) (oi := ⟨some 123, _, _, _, _, _⟩) (v := ?_) rfl (by kernel_rfl) (by kernel_rfl) (by kernel_rfl) (fun _ _ _ h => h) (Or.inl ⟨by rfl, ?_⟩) (by assumption) ?_
                            rotate_left
                            · (intro wq hSw; (try dsimp only at hSw); go_simp; try with_reducible rfl)
                            try simp only [Act.put, List.setIfInBounds_toArray, List.set_cons_zero, List.set_cons_succ]
                            refine wpAnyH_take (i := 7) (oi := ⟨some 124, _, _, _, _, _⟩) (v := ?_) rfl (by kernel_rfl) (by kernel_rfl) (by kernel_rfl) (fun _ _ _ h => h) (Or.inl ⟨by rfl, ?_⟩) (by assumption) ?_
                            rotate_left
                            · (intro wq hSw; (try dsimp only at hSw); have d := hSw.2.cells; go_simp; try with_reducible rfl)
                            try simp only [Act.put, List.setIfInBounds_toArray, List.set_cons_zero, List.set_cons_succ]
                            refine wpAnyH_take (i := 8) (oi := ⟨some 125, _, _, _, _, _⟩) (v := ?_) rfl (by kernel_rfl) (by kernel_rfl) (by kernel_rfl) (fun _ _ _ h => h) (Or.inl ⟨by rfl, ?_⟩) (by assumption) ?_
                            rotate_left
                            · (intro wq hSw; (try dsimp only at hSw); go_simp; try with_reducible rfl)
                            try simp only [Act.put, List.setIfInBounds_toArray, List.set_cons_zero, List.set_cons_succ]
                            refine wpAnyH_take (i := 9) (oi := ⟨some 126, _, _, _, _, _⟩) (v := ?_) rfl (by kernel_rfl) (by kernel_rfl) (by kernel_rfl) (fun _ _ _ h => h) (Or.inl ⟨by rfl, ?_⟩) (by assumption) ?_
                            rotate_left
                            · (intro wq hSw; (try dsimp only at hSw); go_simp; try with_reducible rfl)
                            try simp only [Act.put, List.setIfInBounds_toArray, List.set_cons_zero, List.set_cons_succ]
                            refine wpAnyH_take (i := 10) (oi := ⟨some 127, _, _, _, _, _⟩) (v := ?_) rfl (by kernel_rfl) (by kernel_rfl) (by kernel_rfl) (fun _ _ _ h => h) (Or.inl ⟨by rfl, ?_⟩) (by assumption) ?_
                            rotate_left
                            · (intro wq hSw; (try dsimp only at hSw); go_simp; try with_reducible rfl)
                            try simp only [Act.put, List.setIfInBounds_toArray, List.set_cons_zero, List.set_cons_succ]
                            refine wpAnyH_take (i := 11) (oi := ⟨some 128, _, _, _, _, _⟩) (v := ?_) rfl (by kernel_rfl) (by kernel_rfl) (by kernel_rfl) (fun _ _ _ h => h) (Or.inl ⟨by rfl, ?_⟩) (by assumption) ?_
                            rotate_left
                            · (intro wq hSw; (try dsimp only at hSw); have d := hSw.2.cells; go_simp; try with_reducible rfl)
                            try simp only [Act.put, List.setIfInBounds_toArray, List.set_cons_zero, List.set_cons_succ]
                            refine wpAnyH_take (i := 12) (oi := ⟨some 129, _, _, _, _, _⟩) (v := ?_) rfl (by kernel_rfl) (by kernel_rfl) (by kernel_rfl) (fun _ _ _ h => h) (Or.inl ⟨by rfl, ?_⟩) (by assumption) ?_
                            rotate_left
                            · (intro wq hSw; (try dsimp only at hSw); go_simp; try with_reducible rfl)
                            try simp only [Act.put, List.setIfInBounds_toArray, List.set_cons_zero, List.set_cons_succ]
                            refine wpAnyH_take (i := 13) (oi := ⟨some 130, _, _, _, _, _⟩) (v := ?_) rfl (by kernel_rfl) (by kernel_rfl) (by kernel_rfl) (fun _ _ _ h => h) (Or.inl ⟨by rfl, ?_⟩) (by assumption) ?_
                            rotate_left
                            · (intro wq hSw; (try dsimp only at hSw); go_simp; try with_reducible rfl)
                            try simp only [Act.put, List.setIfInBounds_toArray, List.set_cons_zero, List.set_cons_succ]
                            refine wpAnyH_take (i := 14) (oi := ⟨some 131, _, _, _, _, _⟩) (v := ?_) rfl (by kernel_rfl) (by kernel_rfl) (by kernel_rfl) (fun _ _ _ h => h) (Or.inl ⟨by rfl, ?_⟩) (by assumption) ?_
                            rotate_left
                            · (intro wq hSw; (try dsimp only at hSw); go_simp; try with_reducible rfl)
                            try simp only [Act.put, List.setIfInBounds_toArray, List.set_cons_zero, List.set_cons_succ]
                            refine wpAnyH_take (i := 15) (oi := ⟨some 132, _, _, _, _, _⟩) (v := ?_) rfl (by kernel_rfl) (by kernel_rfl) (by kernel_rfl) (fun _ _ _ h => h) (Or.inl ⟨by rfl, ?_⟩) (by assumption) ?_
                            rotate_left
                            · (intro wq hSw; (try dsimp only at hSw); have d := hSw.2.cells; go_simp; try with_reducible rfl)
                            try simp only [Act.put, List.setIfInBounds_toArray, List.set_cons_zero, List.set_cons_succ]
                            refine wpAnyH_ready (rs := [16]) (by kernel_rfl) (by simp) ?_
                            refine AllReadyH.cons (o := ⟨some 133, _, _, _, _, _⟩) rfl (fun K hK => ?_) AllReadyH.nil
                            go_simp
                            refine (IC _ hd).mono ?_; rintro e z16 ⟨rfl, h6, y16⟩
                            refine hK.out _ _ (⟨hHeld.1.kc y16, hHeld.2.kc y16⟩) (fun hHeld => ?_)
                            clear hK K
                            try simp only [Act.put, List.setIfInBounds_toArray, List.set_cons_zero, List.set_cons_succ]
                            refine wpAnyH_take (i := 17) (oi := ⟨some 17, _, _, _, _, _⟩) (v := ?_) rfl (by kernel_rfl) (by kernel_rfl) (by kernel_rfl) (fun _ _ _ h => h) (Or.inl ⟨by rfl, ?_⟩) (by assumption) ?_
                            rotate_left
                            · (intro wq hSw; (try dsimp only at hSw); go_simp; try with_reducible rfl)
                            try simp only [Act.put, List.setIfInBounds_toArray, List.set_cons_zero, List.set_cons_succ]
                            refine wpAnyH_done (by kernel_rfl) ?_ _
                            have g6 := hHeld.1
                            have x6 := hHeld.2
                            have l6 := ld.kc y16
                            clear IC hd gd ld xd y16 hHeld
                            by_cases hE : E = 0
                            · subst hE
                              have hKI := ki1 rfl
                              clear ki1 ki2 hno x6
                              have hz6 := h6.new.size
                              obtain ⟨i0', hi, hz0, hz1, hz2⟩ := info_partsW
                              have hLc1 := hLc.out
                              have ej : IntKind.i64.wrap ((j : Int) + 1) = (j : Int) + 1 := IntWalk.i64_in _ ⟨by omega, by omega⟩
                              have hjc : (j : Int) ≤ (lc : Int) := by omega
                              have hjc2 : (j : Int) + 1 ≤ (L : Int) := by omega
                              have hLc2 : (L : Int) ≤ (lc : Int) := by omega
                              have jt : ((j : Int) + 1).toNat = j + 1 := by omega
                              go_wp2_with (at_builtin; go_loud (refine wpList_app _ rfl _ _ 52 52 rfl w.heap.size 54 i0' _ 6 72 Try.underlying52 hi hz0 hz1 hz2 rfl _ 0 [] rfl (World.ownsRow_nil _ _ _ _) _ j (flatW (l.take j)) rfl (src_front l6 (by rw [hLL.out]; omega)) ?c1 ?c2 ?c3 ?_))
                              case c1 => unfold maxLen; omega
                              case c2 => omega
                              case c3 => omega
                              intro v1 w1 own1 hg1 hb1
                              have k1 : New _ w1 := (New.refl _).grown hg1 (fun k hk => by simp [Value.ownBlock] at hk)
                              have h7 := h6.keep k1
                              have g7 := g6.keep k1
                              have l7 := l6.keep k1
                              have z7 := k1.size
                              have r1 : Wys w w1 v1 (l.take j) := by
                                unfold Wys
                                rw [List.length_take, hLL.out, Nat.min_eq_left (by omega)]
                                simpa using own1
                              have own2 : w1.ownsRow w.heap.size 54 6 v1 j (flatW (l.take j)) := by simpa using own1
                              clear own1 hg1 hb1 k1 h6 g6 l6
                              have hdl : (l.drop (j + 1)).length = L - (j + 1) := by rw [List.length_drop, hLL.out]
                              have hend : ∀ (v2 : Value) (w2 : World), w2.ownsRow w.heap.size 54 6 v2 (j + (L - (j + 1))) (flatW (l.take j) ++ flatW (l.drop (j + 1))) → Wys w w2 v2 (l.take j ++ l.drop (j + 1)) := by
                                intro v2 w2 ho
                                unfold Wys
                                rw [List.length_append, List.length_take, hdl, hLL.out, Nat.min_eq_left (by omega), flatW_app]
                                exact ho
                              have hlen2 : (l.take j ++ l.drop (j + 1)).length ≤ k + 1 := by rw [List.length_append, List.length_take, hdl, hLL.out]; omega
                              by_cases hcp : lc = j + 1
                              · have hnil : flatW (l.drop (j + 1)) = [] := List.eq_nil_of_length_eq_zero (by rw [flatW_len, hdl]; omega)
                                go_wp2_with (at_builtin; go_loud (refine wpList_app _ rfl _ _ 52 52 rfl w.heap.size 54 i0' _ 6 72 Try.underlying52 hi hz0 hz1 hz2 rfl _ j (flatW (l.take j)) rfl own2 _ (L - (j + 1)) (flatW (l.drop (j + 1))) rfl (src_none _ _ _ _ (by omega) hnil) ?d1 ?d2 ?d3 ?_))
                                case d1 => unfold maxLen; omega
                                case d2 => omega
                                case d3 => omega
                                intro v2 w2 own3 hg2 hb2
                                have h8 := h7.grownW r1 hg2
                                have g8 := g7.grownW r1 hg2
                                have l8 := hend v2 w2 (by first | exact own3 | (rw [hnil, List.append_nil]; exact own3))
                                clear own2 own3 hg2 hb2 h7 g7 l7 r1 hend
                                go_wp2_with fail
                                go_meet
                                case rel => exact ⟨n + 2, _, _, by omega, hlen2, hKI, h8, g8, l8⟩
                              · go_wp2_with (at_builtin; go_loud (refine wpList_app _ rfl _ _ 52 52 rfl w.heap.size 54 i0' _ 6 72 Try.underlying52 hi hz0 hz1 hz2 rfl _ j (flatW (l.take j)) rfl own2 _ (L - (j + 1)) (flatW (l.drop (j + 1))) rfl (src_end l7 (by rw [hLL.out]; omega)) ?d1 ?d2 ?d3 ?_))
                                case d1 => unfold maxLen; omega
                                case d2 => omega
                                case d3 => omega
                                intro v2 w2 own3 hg2 hb2
                                have h8 := h7.grownW r1 hg2
                                have g8 := g7.grownW r1 hg2
                                have l8 := hend v2 w2 (by first | exact own3 | (rw [hnil, List.append_nil]; exact own3))
                                clear own2 own3 hg2 hb2 h7 g7 l7 r1 hend
                                go_wp2_with fail
                                go_meet
                                case rel => exact ⟨n + 2, _, _, by omega, hlen2, hKI, h8, g8, l8⟩
                            · have e7 : (E != 0) = true := by simpa using hE
                              have hS := hno hE
                              subst hS
                              rw [set2_same] at h6
                              have HM := fun w => home_any (1 + x.fr) (by show _ < _; omega) x.c.den w
                              rw [ki2 hE] at HM
                              simp only [ef] at HM
                              clear ki1 ki2 hno
                              have dx := x6.cells
                              go_wp2_with fail
                              refine (HM _).mono ?_
                              rintro e z7 ⟨rfl, y7⟩
                              have h7 := h6.keep y7
                              have g7 := g6.keep y7
                              have l7 := l6.keep y7
                              clear h6 g6 l6 x6 dx HM y7
                              obtain ⟨cs, hcs⟩ : ∃ cs, z7.heap[ga]? = some (.cells cs 54 (0, 0)) := by
                                obtain ⟨a2, c2, e2, hne⟩ := l7.shape
                                cases e2
                                obtain ⟨g2, e3, -, -, cs, hcs⟩ := hne (by intro e; rw [e] at hx; cases hx)
                                cases e3
                                exact ⟨cs, hcs⟩
                              have c7 := (Wys.at l7 hx).2.2.2.2.2
                              have f7 : z7.frozen? ⟨ga, j * 6 + 5, none⟩ = false := frozen_blk hcs _
                              have kS : Keeps (fun k => k = ga) z7 (z7.setCell ⟨ga, j * 6 + 5, none⟩ (.bool true)) := (Keeps.refl (fun k => k = ga) z7).set1 _ _
                              have h8 := h7.stored hcs (by decide) hgw kS
                              have g8 := far_type g7 hcs (by decide) kS
                              have l8 := Wys.failed l7 hLL.out.symm hx
                              go_wp2_with fail
                              go_roundw
                              case rel => exact ⟨k + 1, n + 2, s, l.set j x.fail, by omega, by omega, by omega, by rw [List.length_set]; omega, by go_num, ki_fail hI hx, h8, g8, l8⟩
                              case measure => simp [intOf]; omega
                        · as_aux_lemma =>
                            have BC := fun z (g : Prs w z P n s) => g.act (o := x.fr) hf (fun ma sa hb => back_any (P x.fr) ma sa n (s x.fr) (1 + x.fr) (by show _ < _; omega) x.c hu (by omega) z hb)
                            obtain ⟨kb1, hKI⟩ := ki_back hI ltm hx
                            rw [kb1] at BC
                            simp only [ef] at BC
                            clear kb1
                            generalize backS (s x.fr) (1 + x.fr) x.c = S2 at *
                            go_wp2_with fail
                            refine wp_region_held_drew (S := (fun w' => bL w' G P ∧ wW w' Qw x)) (by kernel_rfl) ?_ (fun hHeld => ?_)
                            · exact ⟨gd, xd⟩
                            refine wpAnyH_take (i := 0) (oi := ⟨some 104, _, _, _, _, _⟩) (v := ?_) rfl (by kernel_rfl) (by kernel_rfl) (by kernel_rfl) (fun _ _ _ h => h) (Or.inl ⟨by rfl, ?_⟩) (by assumption) ?_
                            rotate_left
                            · (intro wq hSw; (try dsimp only at hSw); go_simp; try with_reducible rfl)
                            try simp only [Act.put, List.setIfInBounds_toArray, List.set_cons_zero, List.set_cons_succ]
                            refine wpAnyH_take (i := 1) (oi := ⟨some 105, _, _, _, _, _⟩) (v := ?_) rfl (by kernel_rfl) (by kernel_rfl) (by kernel_rfl) (fun _ _ _ h => h) (Or.inl ⟨by rfl, ?_⟩) (by assumption) ?_
                            rotate_left
                            · (intro wq hSw; (try dsimp only at hSw); go_simp; try with_reducible rfl)
                            try simp only [Act.put, List.setIfInBounds_toArray, List.set_cons_zero, List.set_cons_succ]
                            refine wpAnyH_take (i := 2) (oi := ⟨some 106, _, _, _, _, _⟩) (v := ?_) rfl (by kernel_rfl) (by kernel_rfl) (by kernel_rfl) (fun _ _ _ h => h) (Or.inl ⟨by rfl, ?_⟩) (by assumption) ?_
                            rotate_left
                            · (intro wq hSw; (try dsimp only at hSw); have d := hSw.2.cells; go_simp; try with_reducible rfl)
                            try simp only [Act.put, List.setIfInBounds_toArray, List.set_cons_zero, List.set_cons_succ]
                            refine wpAnyH_take (i := 3) (oi := ⟨some 107, _, _, _, _, _⟩) (v := ?_) rfl (by kernel_rfl) (by kernel_rfl) (by kernel_rfl) (fun _ _ _ h => h) (Or.inl ⟨by rfl, ?_⟩) (by assumption) ?_
                            rotate_left
                            · (intro wq hSw; (try dsimp only at hSw); go_simp; try with_reducible rfl)
                            try simp only [Act.put, List.setIfInBounds_toArray, List.set_cons_zero, List.set_cons_succ]
                            refine wpAnyH_take (i := 4) (oi := ⟨some 108, _, _, _, _, _⟩) (v := ?_) rfl (by kernel_rfl) (by kernel_rfl) (by kernel_rfl) (fun _ _ _ h => h) (Or.inl ⟨by rfl, ?_⟩) (by assumption) ?_
                            rotate_left
                            · (intro wq hSw; (try dsimp only at hSw); have d := hSw.1.cell hf; go_simp; try with_reducible rfl)
                            try simp only [Act.put, List.setIfInBounds_toArray, List.set_cons_zero, List.set_cons_succ]
                            refine wpAnyH_take (i := 5) (oi := ⟨some 109, _, _, _, _, _⟩) (v := ?_) rfl (by kernel_rfl) (by kernel_rfl) (by kernel_rfl) (fun _ _ _ h => h) (Or.inl ⟨by rfl, ?_⟩) (by assumption) ?_
                            rotate_left
                            · (intro wq hSw; (try dsimp only at hSw); go_simp; try with_reducible rfl)
                            try simp only [Act.put, List.setIfInBounds_toArray, List.set_cons_zero, List.set_cons_succ]
                            refine wpAnyH_take (i := 6) (oi := ⟨some 110, _, _, _, _, _⟩) (v := ?_) rfl (by kernel_rfl) (by kernel_rfl) (by kernel_rfl) (fun _ _ _ h => h) (Or.inl ⟨by rfl, ?_⟩) (by assumption) ?_
                            rotate_left
                            · (intro wq hSw; (try dsimp only at hSw); have d := hSw.2.cells; go_simp; try with_reducible rfl)
                            try simp only [Act.put, List.setIfInBounds_toArray, List.set_cons_zero, List.set_cons_succ]
                            refine wpAnyH_take (i := 7) (oi := ⟨some 111, _, _, _, _, _⟩) (v := ?_) rfl (by kernel_rfl) (by kernel_rfl) (by kernel_rfl) (fun _ _ _ h => h) (Or.inl ⟨by rfl, ?_⟩) (by assumption) ?_
                            rotate_left
                            · (intro wq hSw; (try dsimp only at hSw); go_simp; try with_reducible rfl)
                            try simp only [Act.put, List.setIfInBounds_toArray, List.set_cons_zero, List.set_cons_succ]
                            refine wpAnyH_take (i := 8) (oi := ⟨some 112, _, _, _, _, _⟩) (v := ?_) rfl (by kernel_rfl) (by kernel_rfl) (by kernel_rfl) (fun _ _ _ h => h) (Or.inl ⟨by rfl, ?_⟩) (by assumption) ?_
                            rotate_left
                            · (intro wq hSw; (try dsimp only at hSw); go_simp; try with_reducible rfl)
                            try simp only [Act.put, List.setIfInBounds_toArray, List.set_cons_zero, List.set_cons_succ]
                            refine wpAnyH_take (i := 9) (oi := ⟨some 113, _, _, _, _, _⟩) (v := ?_) rfl (by kernel_rfl) (by kernel_rfl) (by kernel_rfl) (fun _ _ _ h => h) (Or.inl ⟨by rfl, ?_⟩) (by assumption) ?_
                            rotate_left
                            · (intro wq hSw; (try dsimp only at hSw); go_simp; try with_reducible rfl)
                            try simp only [Act.put, List.setIfInBounds_toArray, List.set_cons_zero, List.set_cons_succ]
                            refine wpAnyH_take (i := 10) (oi := ⟨some 114, _, _, _, _, _⟩) (v := ?_) rfl (by kernel_rfl) (by kernel_rfl) (by kernel_rfl) (fun _ _ _ h => h) (Or.inl ⟨by rfl, ?_⟩) (by assumption) ?_
                            rotate_left
                            · (intro wq hSw; (try dsimp only at hSw); have d := hSw.2.cells; go_simp; try with_reducible rfl)
                            try simp only [Act.put, List.setIfInBounds_toArray, List.set_cons_zero, List.set_cons_succ]
                            refine wpAnyH_ready (rs := [11]) (by kernel_rfl) (by simp) ?_
                            refine AllReadyH.cons (o := ⟨some 115, _, _, _, _, _⟩) rfl (fun K hK => ?_) AllReadyH.nil
                            go_simp
                            refine (BC _ hd).mono ?_; rintro e z11 ⟨rfl, h6, y11⟩
                            refine hK.out _ _ (⟨hHeld.1.kc y11, hHeld.2.kc y11⟩) (fun hHeld => ?_)
                            clear hK K
                            try simp only [Act.put, List.setIfInBounds_toArray, List.set_cons_zero, List.set_cons_succ]
                            refine wpAnyH_take (i := 12) (oi := ⟨some 116, _, _, _, _, _⟩) (v := ?_) rfl (by kernel_rfl) (by kernel_rfl) (by kernel_rfl) (fun _ _ _ h => h) (Or.inl ⟨by rfl, ?_⟩) (by assumption) ?_
                            rotate_left
                            · (intro wq hSw; (try dsimp only at hSw); go_simp; try with_reducible rfl)
                            try simp only [Act.put, List.setIfInBounds_toArray, List.set_cons_zero, List.set_cons_succ]
                            refine wpAnyH_done (by kernel_rfl) ?_ _
                            have g6 := hHeld.1
                            have l6 := ld.kc y11
                            clear BC hd gd ld xd y11 hHeld
                            have hz6 := h6.new.size
                            obtain ⟨i0', hi, hz0, hz1, hz2⟩ := info_partsW
                            have hLc1 := hLc.out
                            have ej : IntKind.i64.wrap ((j : Int) + 1) = (j : Int) + 1 := IntWalk.i64_in _ ⟨by omega, by omega⟩
                            have hjc : (j : Int) ≤ (lc : Int) := by omega
                            have hjc2 : (j : Int) + 1 ≤ (L : Int) := by omega
                            have hLc2 : (L : Int) ≤ (lc : Int) := by omega
                            have jt : ((j : Int) + 1).toNat = j + 1 := by omega
                            go_wp2_with (at_builtin; go_loud (refine wpList_app _ rfl _ _ 52 52 rfl w.heap.size 54 i0' _ 6 72 Try.underlying52 hi hz0 hz1 hz2 rfl _ 0 [] rfl (World.ownsRow_nil _ _ _ _) _ j (flatW (l.take j)) rfl (src_front l6 (by rw [hLL.out]; omega)) ?c1 ?c2 ?c3 ?_))
                            case c1 => unfold maxLen; omega
                            case c2 => omega
                            case c3 => omega
                            intro v1 w1 own1 hg1 hb1
                            have k1 : New _ w1 := (New.refl _).grown hg1 (fun k hk => by simp [Value.ownBlock] at hk)
                            have h7 := h6.keep k1
                            have g7 := g6.keep k1
                            have l7 := l6.keep k1
                            have z7 := k1.size
                            have r1 : Wys w w1 v1 (l.take j) := by
                              unfold Wys
                              rw [List.length_take, hLL.out, Nat.min_eq_left (by omega)]
                              simpa using own1
                            have own2 : w1.ownsRow w.heap.size 54 6 v1 j (flatW (l.take j)) := by simpa using own1
                            clear own1 hg1 hb1 k1 h6 g6 l6
                            have hdl : (l.drop (j + 1)).length = L - (j + 1) := by rw [List.length_drop, hLL.out]
                            have hend : ∀ (v2 : Value) (w2 : World), w2.ownsRow w.heap.size 54 6 v2 (j + (L - (j + 1))) (flatW (l.take j) ++ flatW (l.drop (j + 1))) → Wys w w2 v2 (l.take j ++ l.drop (j + 1)) := by
                              intro v2 w2 ho
                              unfold Wys
                              rw [List.length_append, List.length_take, hdl, hLL.out, Nat.min_eq_left (by omega), flatW_app]
                              exact ho
                            have hlen2 : (l.take j ++ l.drop (j + 1)).length ≤ k + 1 := by rw [List.length_append, List.length_take, hdl, hLL.out]; omega
                            by_cases hcp : lc = j + 1
                            · have hnil : flatW (l.drop (j + 1)) = [] := List.eq_nil_of_length_eq_zero (by rw [flatW_len, hdl]; omega)
                              go_wp2_with (at_builtin; go_loud (refine wpList_app _ rfl _ _ 52 52 rfl w.heap.size 54 i0' _ 6 72 Try.underlying52 hi hz0 hz1 hz2 rfl _ j (flatW (l.take j)) rfl own2 _ (L - (j + 1)) (flatW (l.drop (j + 1))) rfl (src_none _ _ _ _ (by omega) hnil) ?d1 ?d2 ?d3 ?_))
                              case d1 => unfold maxLen; omega
                              case d2 => omega
                              case d3 => omega
                              intro v2 w2 own3 hg2 hb2
                              have h8 := h7.grownW r1 hg2
                              have g8 := g7.grownW r1 hg2
                              have l8 := hend v2 w2 (by first | exact own3 | (rw [hnil, List.append_nil]; exact own3))
                              clear own2 own3 hg2 hb2 h7 g7 l7 r1 hend
                              go_wp2_with fail
                              go_meet
                              case rel => exact ⟨n + 2, _, _, by omega, hlen2, hKI, h8, g8, l8⟩
                            · go_wp2_with (at_builtin; go_loud (refine wpList_app _ rfl _ _ 52 52 rfl w.heap.size 54 i0' _ 6 72 Try.underlying52 hi hz0 hz1 hz2 rfl _ j (flatW (l.take j)) rfl own2 _ (L - (j + 1)) (flatW (l.drop (j + 1))) rfl (src_end l7 (by rw [hLL.out]; omega)) ?d1 ?d2 ?d3 ?_))
                              case d1 => unfold maxLen; omega
                              case d2 => omega
                              case d3 => omega
                              intro v2 w2 own3 hg2 hb2
                              have h8 := h7.grownW r1 hg2
                              have g8 := g7.grownW r1 hg2
                              have l8 := hend v2 w2 (by first | exact own3 | (rw [hnil, List.append_nil]; exact own3))
                              clear own2 own3 hg2 hb2 h7 g7 l7 r1 hend
                              go_wp2_with fail
                              go_meet
                              case rel => exact ⟨n + 2, _, _, by omega, hlen2, hKI, h8, g8, l8⟩
          · go_wp2_with fail
            go_ret
            exact ⟨rfl, h.new⟩
        · go_wp2_with fail
          go_ret
          exact ⟨rfl, h.new⟩
end Go.Proofs.Ytcldbipipehedaa
