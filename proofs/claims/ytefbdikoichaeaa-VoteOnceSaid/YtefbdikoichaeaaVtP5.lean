/-
  VOTE: voussoirlaw13.Play.does: a block.
-/
import Derived.Test.YtefbdikoichaeaaVtP4
import Derived.Deep.CutBlock
import Derived.Deep.DeepCutAuto
namespace Go.Proofs.Ytefbdikoichaeaa
open Go.RowKit
attribute [local go_sem ↓] Go.wp_at_zero Go.wp_at_succ

/-- an act, laid -/
def actC (w : World) (b : Nat) (x : Ac) : Prop := w.heap[b]? = some (.cells #[.int .i64 x.what, .int .i64 x.on, .int .i64 x.view, .int .i64 x.who] 28 (0, 0))
theorem actC.keep {w w' : World} {b : Nat} {x : Ac} (h : actC w b x) (n : New w w') : actC w' b x := n.kept h (fun h => h)
theorem actC.cells {w : World} {b : Nat} {x : Ac} (h : actC w b x) : w.cell? ⟨b, 0, none⟩ = some (.int .i64 x.what) ∧ w.cell? ⟨b, 1, none⟩ = some (.int .i64 x.on) ∧ w.cell? ⟨b, 2, none⟩ = some (.int .i64 x.view) ∧ w.cell? ⟨b, 3, none⟩ = some (.int .i64 x.who) := by
  refine ⟨?_, ?_, ?_, ?_⟩ <;> rw [cell_blk h] <;> rfl
/-- what does leaves -/
def DoesPost (w0 : World) (p n f m : Nat) (s : Ps) (w' : World) : Prop := ∃ s', Step n f s s' ∧ Pl w0 w' p n f s' ∧ (∀ j, vw s'.l j ≤ m + 3) ∧ s'.l.length ≤ s.l.length + 1
/-- types of what a block more turns -/
def badD (t : TypeId) : Bool := t == 3 || treeT t || t == 58 || t == 54
theorem KT.weaken {bad bad' : TypeId → Bool} {w w' : World} (h : KT bad w w') (hb : ∀ t, bad' t = false → bad t = false) : KT bad' w w' := fun k c T f hk hT => h k c T f hk (hb T hT)
theorem badD_int (t : TypeId) (h : badD t = false) : (t == 3) = false := by simp only [badD, Bool.or_eq_false_iff] at h; exact h.1.1.1
theorem badD_tree (t : TypeId) (h : badD t = false) : treeT t = false := by simp only [badD, Bool.or_eq_false_iff] at h; exact h.1.1.2
theorem badD_sl (t : TypeId) (h : badD t = false) : (t == 58) = false := by simp only [badD, Bool.or_eq_false_iff] at h; exact h.1.2
theorem badD_play (t : TypeId) (h : badD t = false) : (t == 54) = false := by simp only [badD, Bool.or_eq_false_iff] at h; exact h.2
/-- other voters' blocks than the Play's own are as they were -/
def VK (p : Nat) (w w' : World) : Prop := ∀ (k : Nat) (c : Array Value) (f : Nat × Nat), w.heap[k]? = some (.cells c 43 f) → (∀ m cp, w.cell? ⟨p, 3, none⟩ ≠ some (.slice (some ⟨k, 0, none⟩) m cp)) → w'.heap[k]? = some (.cells c 43 f)
def DoesPost2 (w0 : World) (p n f m : Nat) (s : Ps) (w w' : World) : Prop := ∃ s', Step n f s s' ∧ Pl w0 w' p n f s' ∧ (∀ j, vw s'.l j ≤ m + 3) ∧ s'.l.length ≤ s.l.length + 1 ∧ VK p w w'
theorem DoesPost2.one {w0 : World} {p n f m : Nat} {s : Ps} {w w' : World} (h : DoesPost2 w0 p n f m s w w') : DoesPost w0 p n f m s w' := by
  obtain ⟨s', h1, h2, h3, h4, _⟩ := h
  exact ⟨s', h1, h2, h3, h4⟩
theorem infoInt : (Try.prog.info? 3).map (fun i => (i.zero, i.size, i.bytes)) = some (some (.int .i64 0), 1, 8) := by kernel_rfl

set_option maxHeartbeats 8000000 in
set_option maxRecDepth 100000 in
theorem does_add2 (w0 w : World) (p n f m : Nat) (s : Ps) (x : Ac) (i1 : I64 x.what) (i2 : I64 x.on) (i3 : I64 x.view) (hwhat : pk x.what 6 = 0) (hn1 : n ≤ 100) (hI : Inv n f s) (hm : m ≤ 1000000) (hv : ∀ j, vw s.l j ≤ m) (hl : s.l.length ≤ 200) (h : Pl w0 w p n f s) :
    Calls Try.prog 34 #[.pointer (some ⟨p, 0, none⟩), .agg #[.int .i64 x.what, .int .i64 x.on, .int .i64 x.view, .int .i64 x.who]] w fun e w' => e = .returned (.tuple #[]) ∧ DoesPost2 w0 p n f m s w w' := by
  obtain ⟨bt, vv, vo, gs, h⟩ := h
  have hr1 : s.rows.length ≤ s.l.length := Nat.le_of_eq hI.len
  have hr2 : s.l.length ≤ s.rows.length := Nat.le_of_eq hI.len.symm
  have hpos := hI.wf.pos
  obtain ⟨bo, co, rfl⟩ := h.voForm (by omega)
  obtain ⟨i0, hi0, hz0, hz1, hz2⟩ := info_parts infoInt
  obtain ⟨j0, hjs, hy0, hy1, hy2⟩ := info_parts infoSl
  have PW : ∀ w, Calls Try.prog 13 #[.int .i64 x.what, .int .i64 6] w fun e w' => e = .returned (.int .i64 0) ∧ w = w' := fun w => by
    have := pick_any x.what 6 w i1 (by omega) (by omega)
    rw [hwhat] at this
    exact this
  clear hwhat
  go_enter Try.func34, Try.ntmps34
  go_wp2_with fail
  have hA1 : actC (w.alloc (.cells #[.int .i64 x.what, .int .i64 x.on, .int .i64 x.view, .int .i64 x.who] 28)) w.heap.size x := heap_alloc_new w _
  have h1 := h.keep ((New.refl w).alloc (.cells #[.int .i64 x.what, .int .i64 x.on, .int .i64 x.view, .int .i64 x.who] 28))
  have kt1 : KT badD w (w.alloc (.cells #[.int .i64 x.what, .int .i64 x.on, .int .i64 x.view, .int .i64 x.who] 28)) := KT.of_new ((New.refl w).alloc _)
  clear h
  generalize World.alloc w _ = W1 at *
  generalize w.heap.size = A at *
  refine (PW _).mono ?_
  rintro e w' ⟨rfl, rfl⟩
  clear PW
  have hcd := hA1.cells
  go_upto_block 0 with (fail)
  go_cut [4] (fun s4 wx => ∃ (gl cl : Nat) (cs : List Nat), s4 = .slice (some ⟨gl, 0, none⟩) cs.length cl ∧ wx.ownsRow w0.heap.size 3 1 (.slice (some ⟨gl, 0, none⟩) cs.length cl) cs.length (cs.map fun c => .int .i64 (c : Nat)) ∧
    (∀ c ∈ cs, c < s.rows.length ∧ cert n s.rows c = true) ∧ 0 < cs.length ∧ cs.length ≤ 200 ∧ PlA w0 wx p n f s bt vv (.slice (some ⟨bo, 0, none⟩) s.rows.length co) gs ∧ actC wx A x ∧ KT badD w wx)
  case first =>
    go_wp2_with fail
    go_loopw [4, 5] (fun lv bv wr => ∃ (k : Nat) (cs : List Nat), k ≤ s.rows.length ∧ bv = .int .i64 k ∧ wr.ownsRow w0.heap.size 3 1 lv cs.length (cs.map fun c => .int .i64 (c : Nat)) ∧
        (∀ c ∈ cs, c < k ∧ cert n s.rows c = true) ∧ (0 < k → 0 < cs.length) ∧ cs.length ≤ k ∧ PlA w0 wr p n f s bt vv (.slice (some ⟨bo, 0, none⟩) s.rows.length co) gs ∧ actC wr A x ∧ KT badD w wr)
      (fun _ bv _ => s.rows.length - (intOf bv).toNat)
    case atStart => exact ⟨0, [], by omega, rfl, World.ownsRow_nil _ _ _ _, (fun c h => by cases h), (fun h => by omega), Nat.le_refl _, h1, hA1, kt1⟩
    case round =>
      clear h1 hA1 hcd hv kt1
      obtain ⟨k, cs, hk, rfl, hown, hcs, hne, hck, hP, hA, hK⟩ := hrel
      have HK := Lib.hid hK
      clear hK
      have hc := hP.cells
      by_cases hlt : k < s.rows.length
      · have e1 : decide (k < s.l.length) = true := by simp; omega
        have e2 : decide (k < s.rows.length) = true := by simp [hlt]
        have hrow := hI.nrow k hlt
        have LT := lenT hP.tree
        have CT := certified_any w0 p n f s k hlt hrow hn1 wr ⟨_, _, _, _, hP⟩
        have HK0 : Hid (k = 0 → cert n s.rows k = true) := fun h => by subst h; rfl
        have HCS := Lib.hid hcs
        clear hrow hcs
        rcases hct : cert n s.rows k with _ | _
        · rw [hct] at CT
          have hk0 : 0 < k := by
            rcases Nat.eq_zero_or_pos k with h0 | h0
            · have := HK0.out h0; rw [hct] at this; cases this
            · exact h0
          have hne2 := hne hk0
          clear hct HK0 hne
          go_wp2_with fail
          refine LT.mono ?_
          rintro e w' ⟨rfl, rfl⟩
          go_wp2_with fail
          refine CT.mono ?_
          rintro e w' ⟨rfl, rfl⟩
          go_wp2_with fail
          go_roundw
          case rel => exact ⟨k + 1, cs, by omega, by go_num, hown, (fun c h => ⟨Nat.lt_succ_of_lt (HCS.out c h).1, (HCS.out c h).2⟩), (fun _ => hne2), by omega, hP, hA, HK.out⟩
          case measure => simp [intOf]; omega
        · rw [hct] at CT
          have HCT := Lib.hid hct
          clear hct HK0 hne
          have hg0 := hP.tree.new.size
          go_wp2_with fail
          refine LT.mono ?_
          rintro e w' ⟨rfl, rfl⟩
          go_wp2_with fail
          refine CT.mono ?_
          rintro e w' ⟨rfl, rfl⟩
          go_wp2_with (at_builtin; go_loud (refine wpList_append_lies _ rfl _ _ _ rfl w0.heap.size 3 i0 _ 1 8 Try.underlying40 hi0 hz0 hz1 hz2 rfl (by omega) _ cs.length _ rfl (hown.alloc _) ⟨wr.heap.size, 0, none⟩ 1 1 [.int .i64 (k : Nat)] rfl rfl (World.news_of_block (cs := #[.int .i64 (k : Nat)]) (t := 3) (fr := (0, 0)) (heap_alloc_new wr _)) (by simp [Value.oneCell']) (by omega) ?c1 ?c2 ?c3 (wr.heap.size + 1) (by simp) ?_))
          case c1 => unfold maxLen; omega
          case c2 => omega
          case c3 => first | omega | (simp; omega)
          intro g2 cap2 w2 hown2 hgrow hat hlt2
          have n1 : New wr (wr.alloc (.cells #[.int .i64 (k : Nat)] 3)) := (New.refl wr).alloc _
          have kt := (KT.of_new (bad := fun t => t == 3) n1).trans (KT.grown hgrow (own_type (hown.alloc _)))
          have nn : New w0 w2 := New.grown (hP.tree.new.then n1 (fun _ h => h.elim)) hgrow (fun k hk => own_ge hown k hk)
          have hP2 := hP.keepT kt nn rfl rfl rfl rfl rfl rfl
          have hA2 : actC w2 A x := kt _ _ _ _ hA rfl
          have hown3 : w2.ownsRow w0.heap.size 3 1 (.slice (some ⟨g2, 0, none⟩) (cs.length + 1) cap2) (cs ++ [k]).length ((cs ++ [k]).map fun c => .int .i64 (c : Nat)) := by
            rw [List.length_append, List.map_append]; exact hown2
          have HK2 := Lib.hid (HK.out.trans (kt.weaken badD_int))
          have HO := Lib.hid hown3
          clear hown hown2 hown3 hgrow hat hlt2 kt nn n1
          go_wp2_with fail
          go_roundw
          case rel =>
            refine ⟨k + 1, cs ++ [k], by omega, by go_num, HO.out, ?_, (fun _ => by simp), by simp; omega, hP2, hA2, HK2.out⟩
            intro c hc
            rcases List.mem_append.1 hc with hc | hc
            · exact ⟨Nat.lt_succ_of_lt (HCS.out c hc).1, (HCS.out c hc).2⟩
            · have : c = k := by simpa using hc
              subst this
              exact ⟨Nat.lt_succ_self _, HCT.out⟩
          case measure => simp [intOf]; omega
      · obtain rfl : k = s.rows.length := by omega
        have e1 : decide (s.rows.length < s.l.length) = false := by simp; omega
        have LT := lenT hP.tree
        have hne2 := hne (by omega)
        obtain ⟨gl, cl, rfl, _⟩ := hown.form hne2
        have HCS := Lib.hid hcs
        clear hcs hne
        go_wp2_with fail
        refine LT.mono ?_
        rintro e w' ⟨rfl, rfl⟩
        go_wp2_with fail
        go_meet
        case rel => exact ⟨gl, cl, cs, rfl, hown, HCS.out, hne2, by omega, hP, hA, HK.out⟩
  case rest =>
    obtain ⟨gl, cl, cs, rfl, hown, hcs, hne, hcl, hP, hA, hK⟩ := hcut
    have HK := Lib.hid hK
    clear h1 hA1 hcd hK kt1
    have PO := fun w => pick_any x.on cs.length w i2 (by omega) (by omega)
    have lo := pk_lt x.on cs.length (by omega)
    generalize pk x.on cs.length = xo at *
    obtain ⟨j, hj⟩ : ∃ j, j = cs.length - 1 - xo := ⟨_, rfl⟩
    have hjl : j < cs.length := by omega
    have hjj : (cs.length : Int) - 1 - (xo : Int) = (j : Int) := by omega
    have hj0 : (0 : Int) ≤ (j : Int) := Int.natCast_nonneg _
    have hj1 : (j : Int) < (cs.length : Int) := by omega
    obtain ⟨on, hon⟩ : ∃ on, on = cs[j] := ⟨_, rfl⟩
    obtain ⟨hon1, hon2⟩ := hcs on (by rw [hon]; exact List.getElem_mem hjl)
    have hcell : wc.cell? ⟨gl, j, none⟩ = some (.int .i64 (on : Nat)) := by
      have := hown.cells (g := gl) rfl j (.int .i64 (on : Nat)) (by simp [hjl, hon])
      rw [addr_add0] at this
      exact this
    have hcd := hA.cells
    clear hcs hj hon hown hne
    have hol : on < s.l.length := by omega
    have PY : ∀ w, Calls Try.prog 13 #[.int .i64 x.view, .int .i64 3] w fun e w' => e = .returned (.int .i64 (pk x.view 3)) ∧ w = w' := fun w => pick_any x.view 3 w i3 (by omega) (by omega)
    have ly := pk_lt x.view 3 (by omega)
    have V1 := fun w (h : TrN w0 w bt s.l) => viewT h (on : Nat)
    rw [viewI_nat hol] at V1
    have hvo := hv on
    have A1 := fun w (h : TrN w0 w bt s.l) => addT2 h on (vw s.l on + 1 + pk x.view 3) hol (by omega) (by unfold U64; omega) (by omega)
    have HST : Hid (Step n f s ⟨addB s.l on (vw s.l on + 1 + pk x.view 3), s.vs, s.rows ++ [List.replicate n false]⟩) := .add on _ hol hon2 (by omega) (by unfold U64; omega) (by omega)
    have HVW : Hid (∀ j, vw (addB s.l on (vw s.l on + 1 + pk x.view 3)) j ≤ m + 3) := by
      intro j
      by_cases e : j < s.l.length
      · rw [vw_addB _ _ _ e]; have := hv j; omega
      · by_cases e2 : j = s.l.length
        · subst e2; rw [vw_addB_new]; omega
        · rw [vw_beyond _ (by rw [addB_length]; omega)]; omega
    have HLN : Hid ((addB s.l on (vw s.l on + 1 + pk x.view 3)).length ≤ s.l.length + 1) := by rw [Hid, addB_length]; omega
    have g1 : IntKind.u64.wrap ((vw s.l on : Int) + 1) = (vw s.l on : Int) + 1 := IntWalk.u64_in _ ⟨by omega, by omega⟩
    have g3 : IntKind.u64.wrap (pk x.view 3 : Int) = (pk x.view 3 : Int) := IntWalk.u64_in _ ⟨by omega, by omega⟩
    have g2 : IntKind.u64.wrap ((vw s.l on : Int) + 1 + (pk x.view 3 : Int)) = ((vw s.l on + 1 + pk x.view 3 : Nat) : Int) := by
      rw [IntWalk.u64_in _ ⟨by omega, by omega⟩]; omega
    clear hv hvo hon2
    generalize pk x.view 3 = y at *
    generalize vw s.l on = vp at *
    go_wp2_with fail
    refine (PO _).mono ?_
    rintro e w' ⟨rfl, rfl⟩
    clear PO
    go_upto_region 10 with (fail)
    clear hcell hjj hcd
    have hPd := hP.drew
    have hAd : actC wc.drew A x := hA
    have HKd : Hid (KT badD w wc.drew) := HK.out.drew
    clear hP hA HK
    refine wp_region_held_drew (S := (fun w' => w'.cell? ⟨p, 0, none⟩ = some (.pointer (some ⟨bt, 0, none⟩)) ∧ actC w' A x)) (by kernel_rfl) ?_ (fun hHeld => ?_)
    · exact ⟨hPd.cells.1, hAd⟩
    generalize World.drew wc = wq at *
    refine wpAnyH_take (i := 0) (oi := ⟨some 56, _, _, _, _, _⟩) (v := ?_) rfl (by kernel_rfl) (by kernel_rfl) (by kernel_rfl) (fun _ _ _ h => h) (Or.inl ⟨by rfl, ?_⟩) (by assumption) ?_
    rotate_left
    · (intro wq hSw; (try dsimp only at hSw); go_simp; try with_reducible rfl)
    try simp only [Act.put, List.setIfInBounds_toArray, List.set_cons_zero, List.set_cons_succ]
    refine wpAnyH_take (i := 1) (oi := ⟨some 57, _, _, _, _, _⟩) (v := ?_) rfl (by kernel_rfl) (by kernel_rfl) (by kernel_rfl) (fun _ _ _ h => h) (Or.inl ⟨by rfl, ?_⟩) (by assumption) ?_
    rotate_left
    · (intro wq hSw; (try dsimp only at hSw); go_simp; try with_reducible rfl)
    try simp only [Act.put, List.setIfInBounds_toArray, List.set_cons_zero, List.set_cons_succ]
    refine wpAnyH_take (i := 2) (oi := ⟨some 58, _, _, _, _, _⟩) (v := ?_) rfl (by kernel_rfl) (by kernel_rfl) (by kernel_rfl) (fun _ _ _ h => h) (Or.inl ⟨by rfl, ?_⟩) (by assumption) ?_
    rotate_left
    · (intro wq hSw; (try dsimp only at hSw); go_simp; try with_reducible rfl)
    try simp only [Act.put, List.setIfInBounds_toArray, List.set_cons_zero, List.set_cons_succ]
    refine wpAnyH_take (i := 3) (oi := ⟨some 59, _, _, _, _, _⟩) (v := ?_) rfl (by kernel_rfl) (by kernel_rfl) (by kernel_rfl) (fun _ _ _ h => h) (Or.inl ⟨by rfl, ?_⟩) (by assumption) ?_
    rotate_left
    · (intro wq hSw; (try dsimp only at hSw); have d := hSw.1; go_simp; try with_reducible rfl)
    try simp only [Act.put, List.setIfInBounds_toArray, List.set_cons_zero, List.set_cons_succ]
    refine wpAnyH_take (i := 4) (oi := ⟨some 60, _, _, _, _, _⟩) (v := ?_) rfl (by kernel_rfl) (by kernel_rfl) (by kernel_rfl) (fun _ _ _ h => h) (Or.inl ⟨by rfl, ?_⟩) (by assumption) ?_
    rotate_left
    · (intro wq hSw; (try dsimp only at hSw); go_simp; try with_reducible rfl)
    try simp only [Act.put, List.setIfInBounds_toArray, List.set_cons_zero, List.set_cons_succ]
    refine wpAnyH_take (i := 5) (oi := ⟨some 61, _, _, _, _, _⟩) (v := ?_) rfl (by kernel_rfl) (by kernel_rfl) (by kernel_rfl) (fun _ _ _ h => h) (Or.inl ⟨by rfl, ?_⟩) (by assumption) ?_
    rotate_left
    · (intro wq hSw; (try dsimp only at hSw); go_simp; try with_reducible rfl)
    try simp only [Act.put, List.setIfInBounds_toArray, List.set_cons_zero, List.set_cons_succ]
    refine wpAnyH_take (i := 6) (oi := ⟨some 62, _, _, _, _, _⟩) (v := ?_) rfl (by kernel_rfl) (by kernel_rfl) (by kernel_rfl) (fun _ _ _ h => h) (Or.inl ⟨by rfl, ?_⟩) (by assumption) ?_
    rotate_left
    · (intro wq hSw; (try dsimp only at hSw); go_simp; try with_reducible rfl)
    try simp only [Act.put, List.setIfInBounds_toArray, List.set_cons_zero, List.set_cons_succ]
    refine wpAnyH_take (i := 7) (oi := ⟨some 63, _, _, _, _, _⟩) (v := ?_) rfl (by kernel_rfl) (by kernel_rfl) (by kernel_rfl) (fun _ _ _ h => h) (Or.inl ⟨by rfl, ?_⟩) (by assumption) ?_
    rotate_left
    · (intro wq hSw; (try dsimp only at hSw); go_simp; try with_reducible rfl)
    try simp only [Act.put, List.setIfInBounds_toArray, List.set_cons_zero, List.set_cons_succ]
    refine wpAnyH_take (i := 8) (oi := ⟨some 64, _, _, _, _, _⟩) (v := ?_) rfl (by kernel_rfl) (by kernel_rfl) (by kernel_rfl) (fun _ _ _ h => h) (Or.inl ⟨by rfl, ?_⟩) (by assumption) ?_
    rotate_left
    · (intro wq hSw; (try dsimp only at hSw); have d := hSw.1; go_simp; try with_reducible rfl)
    try simp only [Act.put, List.setIfInBounds_toArray, List.set_cons_zero, List.set_cons_succ]
    refine wpAnyH_take (i := 9) (oi := ⟨some 65, _, _, _, _, _⟩) (v := ?_) rfl (by kernel_rfl) (by kernel_rfl) (by kernel_rfl) (fun _ _ _ h => h) (Or.inl ⟨by rfl, ?_⟩) (by assumption) ?_
    rotate_left
    · (intro wq hSw; (try dsimp only at hSw); go_simp; try with_reducible rfl)
    try simp only [Act.put, List.setIfInBounds_toArray, List.set_cons_zero, List.set_cons_succ]
    refine wpAnyH_take (i := 12) (oi := ⟨some 68, _, _, _, _, _⟩) (v := ?_) rfl (by kernel_rfl) (by kernel_rfl) (by kernel_rfl) (fun _ _ _ h => h) (Or.inl ⟨by rfl, ?_⟩) (by assumption) ?_
    rotate_left
    · (intro wq hSw; (try dsimp only at hSw); go_simp; try with_reducible rfl)
    try simp only [Act.put, List.setIfInBounds_toArray, List.set_cons_zero, List.set_cons_succ]
    refine wpAnyH_take (i := 13) (oi := ⟨some 69, _, _, _, _, _⟩) (v := ?_) rfl (by kernel_rfl) (by kernel_rfl) (by kernel_rfl) (fun _ _ _ h => h) (Or.inl ⟨by rfl, ?_⟩) (by assumption) ?_
    rotate_left
    · (intro wq hSw; (try dsimp only at hSw); have d := hSw.2.cells; go_simp; try with_reducible rfl)
    try simp only [Act.put, List.setIfInBounds_toArray, List.set_cons_zero, List.set_cons_succ]
    refine wpAnyH_ready (rs := [10]) (by kernel_rfl) (by simp) ?_
    refine AllReadyH.cons (o := ⟨some 66, _, _, _, _, _⟩) rfl (fun K hK => ?_) AllReadyH.nil
    go_simp
    refine (V1 _ hPd.tree).mono ?_; rintro e w' ⟨rfl, rfl⟩
    refine hK.out _ _ hHeld (fun hHeld => ?_)
    clear hK K
    try simp only [Act.put, List.setIfInBounds_toArray, List.set_cons_zero, List.set_cons_succ]
    refine wpAnyH_take (i := 11) (oi := ⟨some 67, _, _, _, _, _⟩) (v := ?_) rfl (by kernel_rfl) (by kernel_rfl) (by kernel_rfl) (fun _ _ _ h => h) (Or.inl ⟨by rfl, ?_⟩) (by assumption) ?_
    rotate_left
    · (intro wq hSw; (try dsimp only at hSw); go_simp; try with_reducible rfl)
    try simp only [Act.put, List.setIfInBounds_toArray, List.set_cons_zero, List.set_cons_succ]
    refine wpAnyH_ready (rs := [14]) (by kernel_rfl) (by simp) ?_
    refine AllReadyH.cons (o := ⟨some 70, _, _, _, _, _⟩) rfl (fun K hK => ?_) AllReadyH.nil
    go_simp
    refine (PY _).mono ?_; rintro e w' ⟨rfl, rfl⟩
    refine hK.out _ _ hHeld (fun hHeld => ?_)
    clear hK K
    try simp only [Act.put, List.setIfInBounds_toArray, List.set_cons_zero, List.set_cons_succ]
    refine wpAnyH_take (i := 15) (oi := ⟨some 71, _, _, _, _, _⟩) (v := ?_) rfl (by kernel_rfl) (by kernel_rfl) (by kernel_rfl) (fun _ _ _ h => h) (Or.inl ⟨by rfl, ?_⟩) (by assumption) ?_
    rotate_left
    · (intro wq hSw; (try dsimp only at hSw); go_simp; try with_reducible rfl)
    try simp only [Act.put, List.setIfInBounds_toArray, List.set_cons_zero, List.set_cons_succ]
    refine wpAnyH_take (i := 16) (oi := ⟨some 72, _, _, _, _, _⟩) (v := ?_) rfl (by kernel_rfl) (by kernel_rfl) (by kernel_rfl) (fun _ _ _ h => h) (Or.inl ⟨by rfl, ?_⟩) (by assumption) ?_
    rotate_left
    · (intro wq hSw; (try dsimp only at hSw); go_simp; try with_reducible rfl)
    try simp only [Act.put, List.setIfInBounds_toArray, List.set_cons_zero, List.set_cons_succ]
    refine wpAnyH_ready (rs := [17]) (by kernel_rfl) (by simp) ?_
    refine AllReadyH.cons (o := ⟨some 73, _, _, _, _, _⟩) rfl (fun K hK => ?_) AllReadyH.nil
    go_simp
    refine (A1 _ hPd.tree).mono ?_; rintro e w5 ⟨rfl, hT5, kt5⟩; have hP5 := hPd.setTree kt5 hT5; have hA5 : actC w5 A x := kt5 _ _ _ _ hAd rfl
    refine hK.out _ _ (⟨hP5.cells.1, hA5⟩) (fun hHeld => ?_)
    clear hK K
    try simp only [Act.put, List.setIfInBounds_toArray, List.set_cons_zero, List.set_cons_succ]
    refine wpAnyH_take (i := 18) (oi := ⟨some 55, _, _, _, _, _⟩) (v := ?_) rfl (by kernel_rfl) (by kernel_rfl) (by kernel_rfl) (fun _ _ _ h => h) (Or.inl ⟨by rfl, ?_⟩) (by assumption) ?_
    rotate_left
    · (intro wq hSw; (try dsimp only at hSw); go_simp; try with_reducible rfl)
    try simp only [Act.put, List.setIfInBounds_toArray, List.set_cons_zero, List.set_cons_succ]
    refine wpAnyH_take (i := 19) (oi := ⟨some 74, _, _, _, _, _⟩) (v := ?_) rfl (by kernel_rfl) (by kernel_rfl) (by kernel_rfl) (fun _ _ _ h => h) (Or.inl ⟨by rfl, ?_⟩) (by assumption) ?_
    rotate_left
    · (intro wq hSw; (try dsimp only at hSw); go_simp; try with_reducible rfl)
    try simp only [Act.put, List.setIfInBounds_toArray, List.set_cons_zero, List.set_cons_succ]
    refine wpAnyH_take (i := 20) (oi := ⟨some 75, _, _, _, _, _⟩) (v := ?_) rfl (by kernel_rfl) (by kernel_rfl) (by kernel_rfl) (fun _ _ _ h => h) (Or.inl ⟨by rfl, ?_⟩) (by assumption) ?_
    rotate_left
    · (intro wq hSw; (try dsimp only at hSw); go_simp; try with_reducible rfl)
    try simp only [Act.put, List.setIfInBounds_toArray, List.set_cons_zero, List.set_cons_succ]
    refine wpAnyH_take (i := 21) (oi := ⟨some 8, _, _, _, _, _⟩) (v := ?_) rfl (by kernel_rfl) (by kernel_rfl) (by kernel_rfl) (fun _ _ _ h => h) (Or.inl ⟨by rfl, ?_⟩) (by assumption) ?_
    rotate_left
    · (intro wq hSw; (try dsimp only at hSw); go_simp; try with_reducible rfl)
    try simp only [Act.put, List.setIfInBounds_toArray, List.set_cons_zero, List.set_cons_succ]
    refine wpAnyH_take (i := 22) (oi := ⟨some 9, _, _, _, _, _⟩) (v := ?_) rfl (by kernel_rfl) (by kernel_rfl) (by kernel_rfl) (fun _ _ _ h => h) (Or.inl ⟨by rfl, ?_⟩) (by assumption) ?_
    rotate_left
    · (intro wq hSw; (try dsimp only at hSw); go_simp; try with_reducible rfl)
    try simp only [Act.put, List.setIfInBounds_toArray, List.set_cons_zero, List.set_cons_succ]
    refine wpAnyH_done (by kernel_rfl) ?_ _
    have HK5 := Lib.hid (HKd.out.trans (kt5.weaken badD_tree))
    clear HKd hPd hAd kt5 hT5 V1 PY A1 hA5 g1 g2 g3
    go_upto_region 12 with (fail)
    have hQd := hP5.drew
    have HKe : Hid (KT badD w w5.drew) := HK5.out.drew
    clear HK5
    have hb : w0.heap.size ≤ w5.drew.heap.size := hQd.tree.new.size
    have SK : ∀ wa wb : World, (New w0 wa ∧ wa.cell? ⟨p, 1, none⟩ = some (.int .i64 n) ∧ p < wa.heap.size) → New wa wb → (New w0 wb ∧ wb.cell? ⟨p, 1, none⟩ = some (.int .i64 n) ∧ p < wb.heap.size) :=
      fun wa wb h n => ⟨h.1.then n (fun _ h => h.elim), (n.cell h.2.2 (fun h => h)).trans h.2.1, Nat.lt_of_lt_of_le h.2.2 n.size⟩
    have hmk := mk_bools n hn1
    clear hP5 hHeld
    refine wp_region_held_drew (S := (fun w' => New w0 w' ∧ w'.cell? ⟨p, 1, none⟩ = some (.int .i64 n) ∧ p < w'.heap.size)) (by kernel_rfl) ?_ (fun hHeld => ?_)
    · exact ⟨hQd.tree.new, hQd.cells.2.1, hQd.lt⟩
    generalize World.drew w5 = wq2 at *; have hcq := hQd.cells; have hlq := hQd.lt; have q1 : New wq2 (wq2.alloc (.cells (boolV (List.replicate n false)).toArray 4)) := (New.refl wq2).alloc _; have q2 : New wq2 ((wq2.alloc (.cells (boolV (List.replicate n false)).toArray 4)).alloc (.cells #[.slice (some ⟨wq2.heap.size, 0, none⟩) n n] 58)) := q1.alloc _; have hS0 := hHeld
    refine wpAnyH_take (i := 0) (oi := ⟨some 78, _, _, _, _, _⟩) (v := ?_) rfl (by kernel_rfl) (by kernel_rfl) (by kernel_rfl) (fun _ _ _ h => h) (Or.inl ⟨by rfl, ?_⟩) (by assumption) ?_
    rotate_left
    · (intro wq hSw; (try dsimp only at hSw); go_simp; try with_reducible rfl)
    try simp only [Act.put, List.setIfInBounds_toArray, List.set_cons_zero, List.set_cons_succ]
    refine wpAnyH_take (i := 1) (oi := ⟨some 79, _, _, _, _, _⟩) (v := ?_) rfl (by kernel_rfl) (by kernel_rfl) (by kernel_rfl) (fun _ _ _ h => h) (Or.inl ⟨by rfl, ?_⟩) (by assumption) ?_
    rotate_left
    · (intro wq hSw; (try dsimp only at hSw); go_simp; try with_reducible rfl)
    try simp only [Act.put, List.setIfInBounds_toArray, List.set_cons_zero, List.set_cons_succ]
    refine wpAnyH_take (i := 2) (oi := ⟨some 80, _, _, _, _, _⟩) (v := ?_) rfl (by kernel_rfl) (by kernel_rfl) (by kernel_rfl) (fun _ _ _ h => h) (Or.inl ⟨by rfl, ?_⟩) (by assumption) ?_
    rotate_left
    · (intro wq hSw; (try dsimp only at hSw); go_simp; try with_reducible rfl)
    try simp only [Act.put, List.setIfInBounds_toArray, List.set_cons_zero, List.set_cons_succ]
    refine wpAnyH_take (i := 3) (oi := ⟨some 81, _, _, _, _, _⟩) (v := ?_) rfl (by kernel_rfl) (by kernel_rfl) (by kernel_rfl) (fun _ _ _ h => h) (Or.inl ⟨by rfl, ?_⟩) (by assumption) ?_
    rotate_left
    · (intro wq hSw; (try dsimp only at hSw); go_simp; try with_reducible rfl)
    try simp only [Act.put, List.setIfInBounds_toArray, List.set_cons_zero, List.set_cons_succ]
    refine wpAnyH_take (i := 5) (oi := ⟨some 83, _, _, _, _, _⟩) (v := ?_) rfl (by kernel_rfl) (by kernel_rfl) (by kernel_rfl) (fun _ _ _ h => h) (Or.inl ⟨by rfl, ?_⟩) (by assumption) ?_
    rotate_left
    · (intro wq hSw; (try dsimp only at hSw); go_simp; try with_reducible rfl)
    try simp only [Act.put, List.setIfInBounds_toArray, List.set_cons_zero, List.set_cons_succ]
    refine wpAnyH_take (i := 6) (oi := ⟨some 84, _, _, _, _, _⟩) (v := ?_) rfl (by kernel_rfl) (by kernel_rfl) (by kernel_rfl) (fun _ _ _ h => h) (Or.inl ⟨by rfl, ?_⟩) (by assumption) ?_
    rotate_left
    · (intro wq hSw; (try dsimp only at hSw); go_simp; try with_reducible rfl)
    try simp only [Act.put, List.setIfInBounds_toArray, List.set_cons_zero, List.set_cons_succ]
    refine wpAnyH_take (i := 7) (oi := ⟨some 85, _, _, _, _, _⟩) (v := ?_) rfl (by kernel_rfl) (by kernel_rfl) (by kernel_rfl) (fun _ _ _ h => h) (Or.inl ⟨by rfl, ?_⟩) (by assumption) ?_
    rotate_left
    · (intro wq hSw; (try dsimp only at hSw); go_simp; try with_reducible rfl)
    try simp only [Act.put, List.setIfInBounds_toArray, List.set_cons_zero, List.set_cons_succ]
    refine wpAnyH_take (i := 8) (oi := ⟨some 86, _, _, _, _, _⟩) (v := ?_) rfl (by kernel_rfl) (by kernel_rfl) (by kernel_rfl) (fun _ _ _ h => h) (Or.inl ⟨by rfl, ?_⟩) (by assumption) ?_
    rotate_left
    · (intro wq hSw; (try dsimp only at hSw); go_simp; try with_reducible rfl)
    try simp only [Act.put, List.setIfInBounds_toArray, List.set_cons_zero, List.set_cons_succ]
    refine wpAnyH_ready (rs := [4, 9]) (by kernel_rfl) (by simp) ?_
    refine AllReadyH.cons (o := ⟨some 82, _, _, _, _, _⟩) rfl (fun K hK => ?_) (AllReadyH.cons (o := ⟨some 87, _, _, _, _, _⟩) rfl (fun K hK => ?_) AllReadyH.nil)
    focus
      go_simp
      refine hK.out _ _ hHeld (fun hHeld => ?_)
      clear hK K
      try simp only [Act.put, List.setIfInBounds_toArray, List.set_cons_zero, List.set_cons_succ]
      refine wpAnyH_ready (rs := [9]) (by kernel_rfl) (by simp) ?_
      refine AllReadyH.cons (o := ⟨some 87, _, _, _, _, _⟩) rfl (fun K hK => ?_) AllReadyH.nil
      go_simp
      refine hK.out _ _ (SK _ _ hS0 q1) (fun hHeld => ?_)
      clear hK K
      try simp only [Act.put, List.setIfInBounds_toArray, List.set_cons_zero, List.set_cons_succ]
      refine wpAnyH_ready (rs := [10]) (by kernel_rfl) (by simp) ?_
      refine AllReadyH.cons (o := ⟨some 88, _, _, _, _, _⟩) rfl (fun K hK => ?_) AllReadyH.nil
      go_simp
      refine hK.out _ _ (SK _ _ hS0 q2) (fun hHeld => ?_)
      clear hK K
      try simp only [Act.put, List.setIfInBounds_toArray, List.set_cons_zero, List.set_cons_succ]
      refine wpAnyH_ready (rs := [11]) (by kernel_rfl) (by simp) ?_
      refine AllReadyH.cons (o := ⟨some 89, _, _, _, _, _⟩) rfl (fun K hK => ?_) AllReadyH.nil
      refine step_append_lies _ (by rfl) _ _ _ (by rfl) w0.heap.size 58 j0 _ 1 24 Try.underlying52 hjs hy0 hy1 hy2 rfl (by omega) _ s.rows.length _ (by rfl) ((hQd.rws.alloc _).alloc _) ⟨wq2.heap.size + 1, 0, none⟩ 1 1 [.slice (some ⟨wq2.heap.size, 0, none⟩) n n] (by rfl) (by rfl) (World.news_of_block (cs := #[.slice (some ⟨wq2.heap.size, 0, none⟩) n n]) (t := 58) (fr := (0, 0)) (blk2_1 wq2 _ _)) (by simp [Value.oneCell']) (by omega) (by unfold maxLen; omega) (by omega) (by simp; omega) (wq2.heap.size + 2) (by simp) ?_; intro g2 cap2 w6 hown2 hgrow hat hlt2; have hG := hQd.addRow hown2 hgrow; have hpn := q2.kept hQd.blk (fun h => h); have hp2 := KT.grown hgrow (own_type ((hQd.rws.alloc _).alloc _)) _ _ _ _ hpn (show (fun t => t == 58) _ = false from rfl); have x1 := cell_blk hp2 4; have x2 := frozen_blk hp2 4; simp only [List.getElem?_toArray, List.getElem?_cons_zero, List.getElem?_cons_succ] at x1; have nG := hS0.1.then q2 (fun _ h => h.elim); have nG2 := New.grown nG hgrow (fun k hk => own_ge hQd.rws k hk)
      refine hK.out _ _ (⟨nG2, by rw [cell_blk hp2]; rfl, (Array.getElem?_eq_some_iff.1 hp2).1⟩) (fun hHeld => ?_)
      clear hK K
      try simp only [Act.put, List.setIfInBounds_toArray, List.set_cons_zero, List.set_cons_succ]
      refine wpAnyH_take (i := 12) (oi := ⟨some 90, _, _, _, _, _⟩) (v := ?_) rfl (by kernel_rfl) (by kernel_rfl) (by kernel_rfl) (fun _ _ _ h => h) (Or.inl ⟨by rfl, ?_⟩) (by assumption) ?_
      rotate_left
      · (intro wq hSw; (try dsimp only at hSw); go_simp; try with_reducible rfl)
      try simp only [Act.put, List.setIfInBounds_toArray, List.set_cons_zero, List.set_cons_succ]
      refine wpAnyH_take (i := 13) (oi := ⟨some 91, _, _, _, _, _⟩) (v := ?_) rfl (by kernel_rfl) (by kernel_rfl) (by kernel_rfl) (fun _ _ _ h => h) (Or.inl ⟨by rfl, ?_⟩) (by assumption) ?_
      rotate_left
      · (intro wq hSw; (try dsimp only at hSw); go_simp; try with_reducible rfl)
      try simp only [Act.put, List.setIfInBounds_toArray, List.set_cons_zero, List.set_cons_succ]
      refine wpAnyH_ready (rs := [14]) (by kernel_rfl) (by simp) ?_
      refine AllReadyH.cons (o := ⟨none, _, _, _, _, _⟩) rfl (fun K hK => ?_) AllReadyH.nil
      go_simp
      refine hK.out _ _ (⟨hG.tree.new, hG.cells.2.1, hG.lt⟩) (fun hHeld => ?_)
      clear hK K
      try simp only [Act.put, List.setIfInBounds_toArray, List.set_cons_zero, List.set_cons_succ]
      refine wpAnyH_done (by kernel_rfl) ?_ _
    rotate_left 1
    focus
      go_simp
      refine hK.out _ _ (SK _ _ hS0 q1) (fun hHeld => ?_)
      clear hK K
      try simp only [Act.put, List.setIfInBounds_toArray, List.set_cons_zero, List.set_cons_succ]
      refine wpAnyH_ready (rs := [4, 10]) (by kernel_rfl) (by simp) ?_
      refine AllReadyH.cons (o := ⟨some 82, _, _, _, _, _⟩) rfl (fun K hK => ?_) (AllReadyH.cons (o := ⟨some 88, _, _, _, _, _⟩) rfl (fun K hK => ?_) AllReadyH.nil)
      focus
        go_simp
        refine hK.out _ _ hHeld (fun hHeld => ?_)
        clear hK K
        try simp only [Act.put, List.setIfInBounds_toArray, List.set_cons_zero, List.set_cons_succ]
        refine wpAnyH_ready (rs := [10]) (by kernel_rfl) (by simp) ?_
        refine AllReadyH.cons (o := ⟨some 88, _, _, _, _, _⟩) rfl (fun K hK => ?_) AllReadyH.nil
        go_simp
        refine hK.out _ _ (SK _ _ hS0 q2) (fun hHeld => ?_)
        clear hK K
        try simp only [Act.put, List.setIfInBounds_toArray, List.set_cons_zero, List.set_cons_succ]
        refine wpAnyH_ready (rs := [11]) (by kernel_rfl) (by simp) ?_
        refine AllReadyH.cons (o := ⟨some 89, _, _, _, _, _⟩) rfl (fun K hK => ?_) AllReadyH.nil
        refine step_append_lies _ (by rfl) _ _ _ (by rfl) w0.heap.size 58 j0 _ 1 24 Try.underlying52 hjs hy0 hy1 hy2 rfl (by omega) _ s.rows.length _ (by rfl) ((hQd.rws.alloc _).alloc _) ⟨wq2.heap.size + 1, 0, none⟩ 1 1 [.slice (some ⟨wq2.heap.size, 0, none⟩) n n] (by rfl) (by rfl) (World.news_of_block (cs := #[.slice (some ⟨wq2.heap.size, 0, none⟩) n n]) (t := 58) (fr := (0, 0)) (blk2_1 wq2 _ _)) (by simp [Value.oneCell']) (by omega) (by unfold maxLen; omega) (by omega) (by simp; omega) (wq2.heap.size + 2) (by simp) ?_; intro g2 cap2 w6 hown2 hgrow hat hlt2; have hG := hQd.addRow hown2 hgrow; have hpn := q2.kept hQd.blk (fun h => h); have hp2 := KT.grown hgrow (own_type ((hQd.rws.alloc _).alloc _)) _ _ _ _ hpn (show (fun t => t == 58) _ = false from rfl); have x1 := cell_blk hp2 4; have x2 := frozen_blk hp2 4; simp only [List.getElem?_toArray, List.getElem?_cons_zero, List.getElem?_cons_succ] at x1; have nG := hS0.1.then q2 (fun _ h => h.elim); have nG2 := New.grown nG hgrow (fun k hk => own_ge hQd.rws k hk)
        refine hK.out _ _ (⟨nG2, by rw [cell_blk hp2]; rfl, (Array.getElem?_eq_some_iff.1 hp2).1⟩) (fun hHeld => ?_)
        clear hK K
        try simp only [Act.put, List.setIfInBounds_toArray, List.set_cons_zero, List.set_cons_succ]
        refine wpAnyH_take (i := 12) (oi := ⟨some 90, _, _, _, _, _⟩) (v := ?_) rfl (by kernel_rfl) (by kernel_rfl) (by kernel_rfl) (fun _ _ _ h => h) (Or.inl ⟨by rfl, ?_⟩) (by assumption) ?_
        rotate_left
        · (intro wq hSw; (try dsimp only at hSw); go_simp; try with_reducible rfl)
        try simp only [Act.put, List.setIfInBounds_toArray, List.set_cons_zero, List.set_cons_succ]
        refine wpAnyH_take (i := 13) (oi := ⟨some 91, _, _, _, _, _⟩) (v := ?_) rfl (by kernel_rfl) (by kernel_rfl) (by kernel_rfl) (fun _ _ _ h => h) (Or.inl ⟨by rfl, ?_⟩) (by assumption) ?_
        rotate_left
        · (intro wq hSw; (try dsimp only at hSw); go_simp; try with_reducible rfl)
        try simp only [Act.put, List.setIfInBounds_toArray, List.set_cons_zero, List.set_cons_succ]
        refine wpAnyH_ready (rs := [14]) (by kernel_rfl) (by simp) ?_
        refine AllReadyH.cons (o := ⟨none, _, _, _, _, _⟩) rfl (fun K hK => ?_) AllReadyH.nil
        go_simp
        refine hK.out _ _ (⟨hG.tree.new, hG.cells.2.1, hG.lt⟩) (fun hHeld => ?_)
        clear hK K
        try simp only [Act.put, List.setIfInBounds_toArray, List.set_cons_zero, List.set_cons_succ]
        refine wpAnyH_done (by kernel_rfl) ?_ _
      rotate_left 1
      focus
        go_simp
        refine hK.out _ _ (SK _ _ hS0 q2) (fun hHeld => ?_)
        clear hK K
        try simp only [Act.put, List.setIfInBounds_toArray, List.set_cons_zero, List.set_cons_succ]
        refine wpAnyH_ready (rs := [4]) (by kernel_rfl) (by simp) ?_
        refine AllReadyH.cons (o := ⟨some 82, _, _, _, _, _⟩) rfl (fun K hK => ?_) AllReadyH.nil
        go_simp
        refine hK.out _ _ hHeld (fun hHeld => ?_)
        clear hK K
        try simp only [Act.put, List.setIfInBounds_toArray, List.set_cons_zero, List.set_cons_succ]
        refine wpAnyH_ready (rs := [11]) (by kernel_rfl) (by simp) ?_
        refine AllReadyH.cons (o := ⟨some 89, _, _, _, _, _⟩) rfl (fun K hK => ?_) AllReadyH.nil
        refine step_append_lies _ (by rfl) _ _ _ (by rfl) w0.heap.size 58 j0 _ 1 24 Try.underlying52 hjs hy0 hy1 hy2 rfl (by omega) _ s.rows.length _ (by rfl) ((hQd.rws.alloc _).alloc _) ⟨wq2.heap.size + 1, 0, none⟩ 1 1 [.slice (some ⟨wq2.heap.size, 0, none⟩) n n] (by rfl) (by rfl) (World.news_of_block (cs := #[.slice (some ⟨wq2.heap.size, 0, none⟩) n n]) (t := 58) (fr := (0, 0)) (blk2_1 wq2 _ _)) (by simp [Value.oneCell']) (by omega) (by unfold maxLen; omega) (by omega) (by simp; omega) (wq2.heap.size + 2) (by simp) ?_; intro g2 cap2 w6 hown2 hgrow hat hlt2; have hG := hQd.addRow hown2 hgrow; have hpn := q2.kept hQd.blk (fun h => h); have hp2 := KT.grown hgrow (own_type ((hQd.rws.alloc _).alloc _)) _ _ _ _ hpn (show (fun t => t == 58) _ = false from rfl); have x1 := cell_blk hp2 4; have x2 := frozen_blk hp2 4; simp only [List.getElem?_toArray, List.getElem?_cons_zero, List.getElem?_cons_succ] at x1; have nG := hS0.1.then q2 (fun _ h => h.elim); have nG2 := New.grown nG hgrow (fun k hk => own_ge hQd.rws k hk)
        refine hK.out _ _ (⟨nG2, by rw [cell_blk hp2]; rfl, (Array.getElem?_eq_some_iff.1 hp2).1⟩) (fun hHeld => ?_)
        clear hK K
        try simp only [Act.put, List.setIfInBounds_toArray, List.set_cons_zero, List.set_cons_succ]
        refine wpAnyH_take (i := 12) (oi := ⟨some 90, _, _, _, _, _⟩) (v := ?_) rfl (by kernel_rfl) (by kernel_rfl) (by kernel_rfl) (fun _ _ _ h => h) (Or.inl ⟨by rfl, ?_⟩) (by assumption) ?_
        rotate_left
        · (intro wq hSw; (try dsimp only at hSw); go_simp; try with_reducible rfl)
        try simp only [Act.put, List.setIfInBounds_toArray, List.set_cons_zero, List.set_cons_succ]
        refine wpAnyH_take (i := 13) (oi := ⟨some 91, _, _, _, _, _⟩) (v := ?_) rfl (by kernel_rfl) (by kernel_rfl) (by kernel_rfl) (fun _ _ _ h => h) (Or.inl ⟨by rfl, ?_⟩) (by assumption) ?_
        rotate_left
        · (intro wq hSw; (try dsimp only at hSw); go_simp; try with_reducible rfl)
        try simp only [Act.put, List.setIfInBounds_toArray, List.set_cons_zero, List.set_cons_succ]
        refine wpAnyH_ready (rs := [14]) (by kernel_rfl) (by simp) ?_
        refine AllReadyH.cons (o := ⟨none, _, _, _, _, _⟩) rfl (fun K hK => ?_) AllReadyH.nil
        go_simp
        refine hK.out _ _ (⟨hG.tree.new, hG.cells.2.1, hG.lt⟩) (fun hHeld => ?_)
        clear hK K
        try simp only [Act.put, List.setIfInBounds_toArray, List.set_cons_zero, List.set_cons_succ]
        refine wpAnyH_done (by kernel_rfl) ?_ _
      rotate_left 1
    rotate_left 2
    all_goals (
      have HKF := Lib.hid (((HKe.out.trans (KT.of_new q2)).trans ((KT.grown hgrow (own_type ((hQd.rws.alloc _).alloc _))).weaken badD_sl)).trans ((KT.set hp2 4 (.slice (some ⟨g2, 0, none⟩) (s.rows.length + 1) cap2)).weaken badD_play))
      clear HKe hQd hcq q1 q2 hS0 hown2 hgrow hat hpn hp2 x1 x2 nG nG2 hmk SK
      go_wp2_with fail
      refine bodyPost_ret (results_none rfl _ _ _) rfl ?_
      exact ⟨rfl, _, HST.out, ⟨_, _, _, _, hG⟩, HVW.out, HLN.out, fun k c f hk _ => HKF.out k c _ f hk rfl⟩)
theorem does_add (w0 w : World) (p n f m : Nat) (s : Ps) (x : Ac) (i1 : I64 x.what) (i2 : I64 x.on) (i3 : I64 x.view) (hwhat : pk x.what 6 = 0) (hn1 : n ≤ 100) (hI : Inv n f s) (hm : m ≤ 1000000) (hv : ∀ j, vw s.l j ≤ m) (hl : s.l.length ≤ 200) (h : Pl w0 w p n f s) :
    Calls Try.prog 34 #[.pointer (some ⟨p, 0, none⟩), .agg #[.int .i64 x.what, .int .i64 x.on, .int .i64 x.view, .int .i64 x.who]] w fun e w' => e = .returned (.tuple #[]) ∧ DoesPost w0 p n f m s w' :=
  (does_add2 w0 w p n f m s x i1 i2 i3 hwhat hn1 hI hm hv hl h).mono fun _ _ ⟨he, h⟩ => ⟨he, h.one⟩
end Go.Proofs.Ytefbdikoichaeaa
