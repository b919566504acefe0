/-
  voussoirlaw13.VoteSafe: the walk.
-/
import Derived.Test.YtefbdikoichaeaaVtP7
namespace Go.Proofs.Ytefbdikoichaeaa
open Go.RowKit
attribute [local go_sem ↓] Go.wp_at_zero Go.wp_at_succ

set_option maxHeartbeats 8000000 in
set_option maxRecDepth 100000 in
theorem safe_walk (many : Bool) (A : Option Addr) (len cap : Nat) (la : List Ac) (W : World) (hla : la.length = len) (h63 : len ≤ 9223372036854775807) (hA : ActsAt W A la) :
    Calls Try.prog 7 #[.bool many, .slice A len cap] W fun e w' => e = .returned (.bool true) ∧ New W w' := by
  go_enter Try.func7, Try.ntmps7
  go_wp2_with fail
  refine (awake_any W W (New.refl W)).mono ?_
  rintro e w1 ⟨rfl, n1⟩
  go_wp2_with fail
  refine (begins_all W w1 many n1).mono ?_
  rintro e w2 ⟨p, n, f, rfl, hP, hE, hn0, hn1⟩
  have HE := Lib.hid hE
  clear n1 hE
  have hI0 := Lib.hid (inv_beg n f)
  obtain ⟨bt, vv, vo, gs, hPA⟩ := hP
  have hcp := hPA.cells.1
  go_upto_block 0 with (fail)
  clear hcp
  go_cut [] (fun wx => ∃ s, Hid (Inv n f s) ∧ Pl W wx p n f s ∧ s.l.length ≤ 151 ∧ ∀ j, vw s.l j ≤ 450)
  case first =>
    go_wp2_with fail
    go_loopw [7] (fun i wr => ∃ (k : Nat) (s : Ps), k ≤ len ∧ k ≤ 150 ∧ i = .int .i64 k ∧ Hid (Inv n f s) ∧ Pl W wr p n f s ∧ s.l.length ≤ k + 1 ∧ ∀ j, vw s.l j ≤ 3 * k)
      (fun i _ => 150 - (intOf i).toNat)
    case atStart => exact ⟨0, _, by omega, by omega, rfl, hI0, ⟨_, _, _, _, hPA⟩, Nat.le_refl _, fun j => by rcases j with _ | j <;> exact Nat.le_refl _⟩
    case round =>
      clear hPA hI0
      obtain ⟨k, s, hk, hk6, rfl, hI, hP, hl, hv⟩ := hrel
      by_cases hlt : k < len
      · by_cases hlt6 : k < 150
        · obtain ⟨bA, oA, rfl, hbA, ⟨i0, i1, i2, i3⟩, c0, c1, c2, c3⟩ := hA k la[k] (List.getElem?_eq_getElem (by omega))
          generalize la[k] = act at *
          have hk0 : (0 : Int) ≤ (k : Int) := Int.natCast_nonneg _
          have hk1 : (k : Int) < (len : Int) := by omega
          have DA := does_any W wr p n f (3 * k) s act i0 i1 i2 i3 hn0 hn1 hI.out (by omega) hv (by omega) hP
          have nr : New W wr := by obtain ⟨_, _, _, _, h⟩ := hP; exact h.tree.new
          have d0 := (nr.cell (p := ⟨bA, oA + k * 4, none⟩) hbA (fun h => h)).trans c0
          have d1 := (nr.cell (p := ⟨bA, oA + k * 4 + 1, none⟩) hbA (fun h => h)).trans c1
          have d2 := (nr.cell (p := ⟨bA, oA + k * 4 + 2, none⟩) hbA (fun h => h)).trans c2
          have d3 := (nr.cell (p := ⟨bA, oA + k * 4 + 3, none⟩) hbA (fun h => h)).trans c3
          have hl2 := hl
          clear hv hP hl c0 c1 c2 c3 nr
          go_wp2_with fail
          refine DA.mono ?_
          rintro e w5 ⟨rfl, s', hst, hP', hv', hl'⟩
          have HI' := Lib.hid (hI.out.step hst)
          have HV' := Lib.hid hv'
          clear DA d0 d1 d2 d3 hI hst hv'
          go_wp2_with fail
          go_roundw
          case rel => exact ⟨k + 1, s', by omega, by omega, by go_num, HI', hP', by omega, fun j => Nat.le_trans (HV'.out j) (by omega)⟩
          case measure => simp [intOf]; omega
        · have HV := Lib.hid hv
          clear hv
          go_wp2_with fail
          go_meet
          case rel => exact ⟨s, hI, hP, by omega, fun j => Nat.le_trans (HV.out j) (by omega)⟩
      · have HV := Lib.hid hv
        clear hv
        go_wp2_with fail
        go_meet
        case rel => exact ⟨s, hI, hP, by omega, fun j => Nat.le_trans (HV.out j) (by omega)⟩
  case rest =>
    obtain ⟨s, hI, ⟨bt', vv', vo', gs', hP⟩, hl, hv⟩ := hcut
    clear hPA hI0 hA
    clear hv
    obtain ⟨i0, hi0, hz0, hz1, hz2⟩ := info_parts infoInt
    have hw := hI.out.wf
    have hlc : ∀ b, b < s.l.length → comN s.l b = -1 ∨ ∃ r : Nat, comN s.l b = r := fun b hb => by
      rcases hw.com_cases hb with h | ⟨r, h, _⟩
      · exact .inl h
      · exact .inr ⟨r, h⟩
    have HLC := Lib.hid hlc
    have HSF : Hid (∀ a b c d : Nat, a < s.l.length → b < s.l.length → comN s.l a = c → comN s.l b = d → c < s.l.length ∧ d < s.l.length ∧ (extB s.l c d = true ∨ extB s.l d c = true)) :=
      fun a b c d h1 h2 h3 h4 => hI.out.safe HE.out h1 h2 h3 h4
    clear hlc hI HE
    go_wp2_with fail
    go_loopw [8, 9] (fun lv bw wr => ∃ (k : Nat) (cs : List Nat), k ≤ s.l.length ∧ bw = .int .i64 k ∧ wr.ownsRow W.heap.size 3 1 lv cs.length (cs.map fun c => .int .i64 (c : Nat)) ∧
        (∀ c ∈ cs, ∃ b : Nat, b < s.l.length ∧ comN s.l b = c) ∧ cs.length ≤ k ∧ PlA W wr p n f s bt' vv' vo' gs')
      (fun _ bw _ => s.l.length - (intOf bw).toNat)
    case atStart => exact ⟨0, [], by omega, rfl, World.ownsRow_nil _ _ _ _, (fun c h => by cases h), Nat.le_refl _, hP⟩
    case round =>
      clear hP
      obtain ⟨k, cs, hk, rfl, hown, hcs, hck, hP⟩ := hrel
      have hc := hP.cells.1
      have LT := lenT hP.tree
      have HCS := Lib.hid hcs
      clear hcs
      by_cases hlt : k < s.l.length
      · have CT := comT hP.tree (k : Nat)
        rw [comI_nat hlt] at CT
        rcases HLC.out k hlt with hcm | ⟨r, hcm⟩
        · rw [hcm] at CT
          clear hcm
          go_wp2_with fail
          refine LT.mono ?_
          rintro e w' ⟨rfl, rfl⟩
          go_wp2_with fail
          refine CT.mono ?_
          rintro e w5 ⟨rfl, k5⟩
          have hP5 := hP.keep k5
          have hown5 := Keeps.owns k5 hown (fun _ _ h => h)
          clear hP hown k5 hc CT LT
          go_wp2_with fail
          go_roundw
          case rel => exact ⟨k + 1, cs, by omega, by go_num, hown5, HCS.out, by omega, hP5⟩
          case measure => simp [intOf]; omega
        · rw [hcm] at CT
          have HCM := Lib.hid hcm
          clear hcm
          go_wp2_with fail
          refine LT.mono ?_
          rintro e w' ⟨rfl, rfl⟩
          go_wp2_with fail
          refine CT.mono ?_
          rintro e w5 ⟨rfl, k5⟩
          have hP5 := hP.keep k5
          have hown5 := Keeps.owns k5 hown (fun _ _ h => h)
          have hg0 := hP5.tree.new.size
          clear hP hown k5 hc CT LT
          go_wp2_with (at_builtin; go_loud (refine wpList_append_lies _ rfl _ _ _ rfl W.heap.size 3 i0 _ 1 8 Try.underlying40 hi0 hz0 hz1 hz2 rfl (by omega) _ cs.length _ rfl (hown5.alloc _) ⟨w5.heap.size, 0, none⟩ 1 1 [.int .i64 (r : Nat)] rfl rfl (World.news_of_block (cs := #[.int .i64 (r : Nat)]) (t := 3) (fr := (0, 0)) (heap_alloc_new w5 _)) (by simp [Value.oneCell']) (by omega) ?c1 ?c2 ?c3 (w5.heap.size + 1) (by simp) ?_))
          case c1 => unfold maxLen; omega
          case c2 => omega
          case c3 => first | omega | (simp; omega)
          intro g2 cap2 w6 hown2 hgrow hat hlt2
          have n1 : New w5 (w5.alloc (.cells #[.int .i64 (r : Nat)] 3)) := (New.refl w5).alloc _
          have kt := (KT.of_new (bad := fun t => t == 3) n1).trans (KT.grown hgrow (own_type (hown5.alloc _)))
          have nn : New W w6 := New.grown (hP5.tree.new.then n1 (fun _ h => h.elim)) hgrow (fun k hk => own_ge hown5 k hk)
          have hP6 := hP5.keepT kt nn rfl rfl rfl rfl rfl rfl
          have hown3 : w6.ownsRow W.heap.size 3 1 (.slice (some ⟨g2, 0, none⟩) (cs.length + 1) cap2) (cs ++ [r]).length ((cs ++ [r]).map fun c => .int .i64 (c : Nat)) := by
            rw [List.length_append, List.map_append]; exact hown2
          have HO := Lib.hid hown3
          clear hown5 hown2 hown3 hgrow hat hlt2 kt nn n1 hP5
          go_wp2_with fail
          go_roundw
          case rel =>
            refine ⟨k + 1, cs ++ [r], by omega, by go_num, HO.out, ?_, by simp; omega, hP6⟩
            intro c hc
            rcases List.mem_append.1 hc with hc | hc
            · exact HCS.out c hc
            · have : c = r := by simpa using hc
              subst this
              exact ⟨k, hlt, HCM.out⟩
          case measure => simp [intOf]; omega
      · obtain rfl : k = s.l.length := by omega
        obtain ⟨ao, cl, rfl, hao⟩ := own_form hown
        have HAO := Lib.hid hao
        clear hao
        go_wp2_with fail
        refine LT.mono ?_
        rintro e w' ⟨rfl, rfl⟩
        clear hc LT
        go_wp2_with fail
        obtain ⟨wo, rfl⟩ : ∃ wo : World, wo = wr := ⟨_, rfl⟩
        go_loopw [11] (fun i wq => ∃ a : Nat, a ≤ cs.length ∧ i = .int .i64 a ∧ wq.ownsRow W.heap.size 3 1 (.slice ao cs.length cl) cs.length (cs.map fun c => .int .i64 (c : Nat)) ∧ PlA W wq p n f s bt' vv' vo' gs')
          (fun i _ => cs.length - (intOf i).toNat)
        case atStart => exact ⟨0, Nat.zero_le _, rfl, hown, hP⟩
        case round =>
          clear hown hP
          obtain ⟨a, ha, rfl, hown, hP⟩ := hrel
          by_cases hal : a < cs.length
          · obtain ⟨gl, rfl⟩ := HAO.out (by omega)
            go_wp2_with fail
            obtain ⟨wo2, rfl⟩ : ∃ wo2 : World, wo2 = wr := ⟨_, rfl⟩
            go_loopw [12] (fun kv wq => ∃ b : Nat, b ≤ a ∧ kv = .int .i64 b ∧ wq.ownsRow W.heap.size 3 1 (.slice (some ⟨gl, 0, none⟩) cs.length cl) cs.length (cs.map fun c => .int .i64 (c : Nat)) ∧ PlA W wq p n f s bt' vv' vo' gs')
              (fun kv _ => a - (intOf kv).toNat)
            case atStart => exact ⟨0, Nat.zero_le _, rfl, hown, hP⟩
            case round =>
              clear hown hP
              obtain ⟨b, hb, rfl, hown, hP⟩ := hrel
              by_cases hbl : b < a
              · have xa0 : (0 : Int) ≤ (a : Int) := Int.natCast_nonneg _
                have xa1 : (a : Int) < (cs.length : Int) := by omega
                have xb0 : (0 : Int) ≤ (b : Int) := Int.natCast_nonneg _
                have xb1 : (b : Int) < (cs.length : Int) := by omega
                obtain ⟨ba, hba1, hba2⟩ := HCS.out cs[a] (List.getElem_mem hal)
                obtain ⟨bb, hbb1, hbb2⟩ := HCS.out (cs[b]'(by omega)) (List.getElem_mem _)
                have hsf := HSF.out ba bb _ _ hba1 hbb1 hba2 hbb2
                have da := fun w (h : World.ownsRow w W.heap.size 3 1 (.slice (some ⟨gl, 0, none⟩) cs.length cl) cs.length (cs.map fun c => .int .i64 (c : Nat))) => int_at h a hal
                have db := fun w (h : World.ownsRow w W.heap.size 3 1 (.slice (some ⟨gl, 0, none⟩) cs.length cl) cs.length (cs.map fun c => .int .i64 (c : Nat))) => int_at h b (by omega)
                generalize cs[a] = c at *
                generalize cs[b]'(by omega) = d at *
                obtain ⟨hc1, hd1, hsf⟩ := hsf
                clear hba1 hbb1 hba2 hbb2
                have E1 := fun w (h : TrN W w bt' s.l) => extT h (c : Nat) (d : Nat)
                rw [extI_nat hc1 hd1] at E1
                have E2 := fun w (h : TrN W w bt' s.l) => extT h (d : Nat) (c : Nat)
                rw [extI_nat hd1 hc1] at E2
                have DA := Lib.hid da
                have DB := Lib.hid db
                clear da db
                go_wp2_with fail
                have hPd := hP.drew
                have hod : wr.drew.ownsRow W.heap.size 3 1 (.slice (some ⟨gl, 0, none⟩) cs.length cl) cs.length (cs.map fun c => .int .i64 (c : Nat)) := hown
                clear hP hown
                rcases hx : extB s.l c d with _ | _
                · rw [hx] at E1 hsf
                  have hy : extB s.l d c = true := by rcases hsf with h | h; · cases h
                                                      · exact h
                  rw [hy] at E2
                  clear hx hy hsf
                  refine wp_region_held_drew (S := (fun w' => PlA W w' p n f s bt' vv' vo' gs' ∧ w'.ownsRow W.heap.size 3 1 (.slice (some ⟨gl, 0, none⟩) cs.length cl) cs.length (cs.map fun c => .int .i64 (c : Nat)))) (by kernel_rfl) ?_ (fun hHeld => ?_)
                  · exact ⟨hPd, hod⟩
                  refine wpAnyH_take (i := 0) (oi := ⟨some 73, _, _, _, _, _⟩) (v := ?_) rfl (by kernel_rfl) (by kernel_rfl) (by kernel_rfl) (fun _ _ _ h => h) (Or.inl ⟨by rfl, ?_⟩) (by assumption) ?_
                  rotate_left
                  · (intro wq hSw; (try dsimp only at hSw); go_simp; try with_reducible rfl)
                  try simp only [Act.put, List.setIfInBounds_toArray, List.set_cons_zero, List.set_cons_succ]
                  refine wpAnyH_take (i := 1) (oi := ⟨some 74, _, _, _, _, _⟩) (v := ?_) rfl (by kernel_rfl) (by kernel_rfl) (by kernel_rfl) (fun _ _ _ h => h) (Or.inl ⟨by rfl, ?_⟩) (by assumption) ?_
                  rotate_left
                  · (intro wq hSw; (try dsimp only at hSw); go_simp; try with_reducible rfl)
                  try simp only [Act.put, List.setIfInBounds_toArray, List.set_cons_zero, List.set_cons_succ]
                  refine wpAnyH_take (i := 2) (oi := ⟨some 75, _, _, _, _, _⟩) (v := ?_) rfl (by kernel_rfl) (by kernel_rfl) (by kernel_rfl) (fun _ _ _ h => h) (Or.inl ⟨by rfl, ?_⟩) (by assumption) ?_
                  rotate_left
                  · (intro wq hSw; (try dsimp only at hSw); go_simp; try with_reducible rfl)
                  try simp only [Act.put, List.setIfInBounds_toArray, List.set_cons_zero, List.set_cons_succ]
                  refine wpAnyH_take (i := 3) (oi := ⟨some 76, _, _, _, _, _⟩) (v := ?_) rfl (by kernel_rfl) (by kernel_rfl) (by kernel_rfl) (fun _ _ _ h => h) (Or.inl ⟨by rfl, ?_⟩) (by assumption) ?_
                  rotate_left
                  · (intro wq hSw; (try dsimp only at hSw); have q := hSw.1.cells.1; go_simp; try with_reducible rfl)
                  try simp only [Act.put, List.setIfInBounds_toArray, List.set_cons_zero, List.set_cons_succ]
                  refine wpAnyH_take (i := 4) (oi := ⟨some 77, _, _, _, _, _⟩) (v := ?_) rfl (by kernel_rfl) (by kernel_rfl) (by kernel_rfl) (fun _ _ _ h => h) (Or.inl ⟨by rfl, ?_⟩) (by assumption) ?_
                  rotate_left
                  · (intro wq hSw; (try dsimp only at hSw); go_simp; try with_reducible rfl)
                  try simp only [Act.put, List.setIfInBounds_toArray, List.set_cons_zero, List.set_cons_succ]
                  refine wpAnyH_take (i := 5) (oi := ⟨some 78, _, _, _, _, _⟩) (v := ?_) rfl (by kernel_rfl) (by kernel_rfl) (by kernel_rfl) (fun _ _ _ h => h) (Or.inl ⟨by rfl, ?_⟩) (by assumption) ?_
                  rotate_left
                  · (intro wq hSw; (try dsimp only at hSw); go_simp; try with_reducible rfl)
                  try simp only [Act.put, List.setIfInBounds_toArray, List.set_cons_zero, List.set_cons_succ]
                  refine wpAnyH_take (i := 6) (oi := ⟨some 79, _, _, _, _, _⟩) (v := ?_) rfl (by kernel_rfl) (by kernel_rfl) (by kernel_rfl) (fun _ _ _ h => h) (Or.inl ⟨by rfl, ?_⟩) (by assumption) ?_
                  rotate_left
                  · (intro wq hSw; (try dsimp only at hSw); go_simp; try with_reducible rfl)
                  try simp only [Act.put, List.setIfInBounds_toArray, List.set_cons_zero, List.set_cons_succ]
                  refine wpAnyH_take (i := 7) (oi := ⟨some 80, _, _, _, _, _⟩) (v := ?_) rfl (by kernel_rfl) (by kernel_rfl) (by kernel_rfl) (fun _ _ _ h => h) (Or.inl ⟨by rfl, ?_⟩) (by assumption) ?_
                  rotate_left
                  · (intro wq hSw; (try dsimp only at hSw); have q := DA.out _ hSw.2; go_simp; try with_reducible rfl)
                  try simp only [Act.put, List.setIfInBounds_toArray, List.set_cons_zero, List.set_cons_succ]
                  refine wpAnyH_take (i := 8) (oi := ⟨some 81, _, _, _, _, _⟩) (v := ?_) rfl (by kernel_rfl) (by kernel_rfl) (by kernel_rfl) (fun _ _ _ h => h) (Or.inl ⟨by rfl, ?_⟩) (by assumption) ?_
                  rotate_left
                  · (intro wq hSw; (try dsimp only at hSw); go_simp; try with_reducible rfl)
                  try simp only [Act.put, List.setIfInBounds_toArray, List.set_cons_zero, List.set_cons_succ]
                  refine wpAnyH_take (i := 9) (oi := ⟨some 82, _, _, _, _, _⟩) (v := ?_) rfl (by kernel_rfl) (by kernel_rfl) (by kernel_rfl) (fun _ _ _ h => h) (Or.inl ⟨by rfl, ?_⟩) (by assumption) ?_
                  rotate_left
                  · (intro wq hSw; (try dsimp only at hSw); go_simp; try with_reducible rfl)
                  try simp only [Act.put, List.setIfInBounds_toArray, List.set_cons_zero, List.set_cons_succ]
                  refine wpAnyH_take (i := 10) (oi := ⟨some 83, _, _, _, _, _⟩) (v := ?_) rfl (by kernel_rfl) (by kernel_rfl) (by kernel_rfl) (fun _ _ _ h => h) (Or.inl ⟨by rfl, ?_⟩) (by assumption) ?_
                  rotate_left
                  · (intro wq hSw; (try dsimp only at hSw); go_simp; try with_reducible rfl)
                  try simp only [Act.put, List.setIfInBounds_toArray, List.set_cons_zero, List.set_cons_succ]
                  refine wpAnyH_take (i := 11) (oi := ⟨some 84, _, _, _, _, _⟩) (v := ?_) rfl (by kernel_rfl) (by kernel_rfl) (by kernel_rfl) (fun _ _ _ h => h) (Or.inl ⟨by rfl, ?_⟩) (by assumption) ?_
                  rotate_left
                  · (intro wq hSw; (try dsimp only at hSw); have q := DB.out _ hSw.2; go_simp; try with_reducible rfl)
                  try simp only [Act.put, List.setIfInBounds_toArray, List.set_cons_zero, List.set_cons_succ]
                  refine wpAnyH_ready (rs := [12]) (by kernel_rfl) (by simp) ?_
                  refine AllReadyH.cons (o := ⟨some 85, _, _, _, _, _⟩) rfl (fun K hK => ?_) AllReadyH.nil
                  go_simp
                  refine (E1 _ hHeld.1.tree).mono ?_; rintro e w7 ⟨rfl, k7⟩
                  refine hK.out _ _ (⟨hHeld.1.keep k7, Keeps.owns k7 hHeld.2 (fun _ _ h => h)⟩) (fun hHeld => ?_)
                  clear hK K
                  try simp only [Act.put, List.setIfInBounds_toArray, List.set_cons_zero, List.set_cons_succ]
                  refine wpAnyH_take (i := 13) (oi := ⟨some 86, _, _, _, _, _⟩) (v := ?_) rfl (by kernel_rfl) (by kernel_rfl) (by kernel_rfl) (fun _ _ _ h => h) (Or.inl ⟨by rfl, ?_⟩) (by assumption) ?_
                  rotate_left
                  · (intro wq hSw; (try dsimp only at hSw); go_simp; try with_reducible rfl)
                  try simp only [Act.put, List.setIfInBounds_toArray, List.set_cons_zero, List.set_cons_succ]
                  refine wpAnyH_take (i := 14) (oi := ⟨some 87, _, _, _, _, _⟩) (v := ?_) rfl (by kernel_rfl) (by kernel_rfl) (by kernel_rfl) (fun _ _ _ h => h) (Or.inl ⟨by rfl, ?_⟩) (by assumption) ?_
                  rotate_left
                  · (intro wq hSw; (try dsimp only at hSw); go_simp; try with_reducible rfl)
                  try simp only [Act.put, List.setIfInBounds_toArray, List.set_cons_zero, List.set_cons_succ]
                  refine wpAnyH_take (i := 15) (oi := ⟨some 88, _, _, _, _, _⟩) (v := ?_) rfl (by kernel_rfl) (by kernel_rfl) (by kernel_rfl) (fun _ _ _ h => h) (Or.inl ⟨by rfl, ?_⟩) (by assumption) ?_
                  rotate_left
                  · (intro wq hSw; (try dsimp only at hSw); go_simp; try with_reducible rfl)
                  try simp only [Act.put, List.setIfInBounds_toArray, List.set_cons_zero, List.set_cons_succ]
                  refine wpAnyH_take (i := 16) (oi := ⟨some 89, _, _, _, _, _⟩) (v := ?_) rfl (by kernel_rfl) (by kernel_rfl) (by kernel_rfl) (fun _ _ _ h => h) (Or.inl ⟨by rfl, ?_⟩) (by assumption) ?_
                  rotate_left
                  · (intro wq hSw; (try dsimp only at hSw); go_simp; try with_reducible rfl)
                  try simp only [Act.put, List.setIfInBounds_toArray, List.set_cons_zero, List.set_cons_succ]
                  refine wpAnyH_take (i := 17) (oi := ⟨some 90, _, _, _, _, _⟩) (v := ?_) rfl (by kernel_rfl) (by kernel_rfl) (by kernel_rfl) (fun _ _ _ h => h) (Or.inl ⟨by rfl, ?_⟩) (by assumption) ?_
                  rotate_left
                  · (intro wq hSw; (try dsimp only at hSw); go_simp; try with_reducible rfl)
                  try simp only [Act.put, List.setIfInBounds_toArray, List.set_cons_zero, List.set_cons_succ]
                  refine wpAnyH_take (i := 18) (oi := ⟨some 91, _, _, _, _, _⟩) (v := ?_) rfl (by kernel_rfl) (by kernel_rfl) (by kernel_rfl) (fun _ _ _ h => h) (Or.inl ⟨by rfl, ?_⟩) (by assumption) ?_
                  rotate_left
                  · (intro wq hSw; (try dsimp only at hSw); have q := hSw.1.cells.1; go_simp; try with_reducible rfl)
                  try simp only [Act.put, List.setIfInBounds_toArray, List.set_cons_zero, List.set_cons_succ]
                  refine wpAnyH_take (i := 19) (oi := ⟨some 92, _, _, _, _, _⟩) (v := ?_) rfl (by kernel_rfl) (by kernel_rfl) (by kernel_rfl) (fun _ _ _ h => h) (Or.inl ⟨by rfl, ?_⟩) (by assumption) ?_
                  rotate_left
                  · (intro wq hSw; (try dsimp only at hSw); go_simp; try with_reducible rfl)
                  try simp only [Act.put, List.setIfInBounds_toArray, List.set_cons_zero, List.set_cons_succ]
                  refine wpAnyH_take (i := 20) (oi := ⟨some 93, _, _, _, _, _⟩) (v := ?_) rfl (by kernel_rfl) (by kernel_rfl) (by kernel_rfl) (fun _ _ _ h => h) (Or.inl ⟨by rfl, ?_⟩) (by assumption) ?_
                  rotate_left
                  · (intro wq hSw; (try dsimp only at hSw); go_simp; try with_reducible rfl)
                  try simp only [Act.put, List.setIfInBounds_toArray, List.set_cons_zero, List.set_cons_succ]
                  refine wpAnyH_take (i := 21) (oi := ⟨some 94, _, _, _, _, _⟩) (v := ?_) rfl (by kernel_rfl) (by kernel_rfl) (by kernel_rfl) (fun _ _ _ h => h) (Or.inl ⟨by rfl, ?_⟩) (by assumption) ?_
                  rotate_left
                  · (intro wq hSw; (try dsimp only at hSw); go_simp; try with_reducible rfl)
                  try simp only [Act.put, List.setIfInBounds_toArray, List.set_cons_zero, List.set_cons_succ]
                  refine wpAnyH_take (i := 22) (oi := ⟨some 95, _, _, _, _, _⟩) (v := ?_) rfl (by kernel_rfl) (by kernel_rfl) (by kernel_rfl) (fun _ _ _ h => h) (Or.inl ⟨by rfl, ?_⟩) (by assumption) ?_
                  rotate_left
                  · (intro wq hSw; (try dsimp only at hSw); have q := DB.out _ hSw.2; go_simp; try with_reducible rfl)
                  try simp only [Act.put, List.setIfInBounds_toArray, List.set_cons_zero, List.set_cons_succ]
                  refine wpAnyH_take (i := 23) (oi := ⟨some 96, _, _, _, _, _⟩) (v := ?_) rfl (by kernel_rfl) (by kernel_rfl) (by kernel_rfl) (fun _ _ _ h => h) (Or.inl ⟨by rfl, ?_⟩) (by assumption) ?_
                  rotate_left
                  · (intro wq hSw; (try dsimp only at hSw); go_simp; try with_reducible rfl)
                  try simp only [Act.put, List.setIfInBounds_toArray, List.set_cons_zero, List.set_cons_succ]
                  refine wpAnyH_take (i := 24) (oi := ⟨some 97, _, _, _, _, _⟩) (v := ?_) rfl (by kernel_rfl) (by kernel_rfl) (by kernel_rfl) (fun _ _ _ h => h) (Or.inl ⟨by rfl, ?_⟩) (by assumption) ?_
                  rotate_left
                  · (intro wq hSw; (try dsimp only at hSw); go_simp; try with_reducible rfl)
                  try simp only [Act.put, List.setIfInBounds_toArray, List.set_cons_zero, List.set_cons_succ]
                  refine wpAnyH_take (i := 25) (oi := ⟨some 98, _, _, _, _, _⟩) (v := ?_) rfl (by kernel_rfl) (by kernel_rfl) (by kernel_rfl) (fun _ _ _ h => h) (Or.inl ⟨by rfl, ?_⟩) (by assumption) ?_
                  rotate_left
                  · (intro wq hSw; (try dsimp only at hSw); go_simp; try with_reducible rfl)
                  try simp only [Act.put, List.setIfInBounds_toArray, List.set_cons_zero, List.set_cons_succ]
                  refine wpAnyH_take (i := 26) (oi := ⟨some 99, _, _, _, _, _⟩) (v := ?_) rfl (by kernel_rfl) (by kernel_rfl) (by kernel_rfl) (fun _ _ _ h => h) (Or.inl ⟨by rfl, ?_⟩) (by assumption) ?_
                  rotate_left
                  · (intro wq hSw; (try dsimp only at hSw); have q := DA.out _ hSw.2; go_simp; try with_reducible rfl)
                  try simp only [Act.put, List.setIfInBounds_toArray, List.set_cons_zero, List.set_cons_succ]
                  refine wpAnyH_ready (rs := [27]) (by kernel_rfl) (by simp) ?_
                  refine AllReadyH.cons (o := ⟨some 100, _, _, _, _, _⟩) rfl (fun K hK => ?_) AllReadyH.nil
                  go_simp
                  refine (E2 _ hHeld.1.tree).mono ?_; rintro e w8 ⟨rfl, k8⟩
                  refine hK.out _ _ (⟨hHeld.1.keep k8, Keeps.owns k8 hHeld.2 (fun _ _ h => h)⟩) (fun hHeld => ?_)
                  clear hK K
                  try simp only [Act.put, List.setIfInBounds_toArray, List.set_cons_zero, List.set_cons_succ]
                  refine wpAnyH_take (i := 28) (oi := ⟨some 101, _, _, _, _, _⟩) (v := ?_) rfl (by kernel_rfl) (by kernel_rfl) (by kernel_rfl) (fun _ _ _ h => h) (Or.inl ⟨by rfl, ?_⟩) (by assumption) ?_
                  rotate_left
                  · (intro wq hSw; (try dsimp only at hSw); go_simp; try with_reducible rfl)
                  try simp only [Act.put, List.setIfInBounds_toArray, List.set_cons_zero, List.set_cons_succ]
                  refine wpAnyH_take (i := 29) (oi := ⟨some 102, _, _, _, _, _⟩) (v := ?_) rfl (by kernel_rfl) (by kernel_rfl) (by kernel_rfl) (fun _ _ _ h => h) (Or.inl ⟨by rfl, ?_⟩) (by assumption) ?_
                  rotate_left
                  · (intro wq hSw; (try dsimp only at hSw); go_simp; try with_reducible rfl)
                  try simp only [Act.put, List.setIfInBounds_toArray, List.set_cons_zero, List.set_cons_succ]
                  refine wpAnyH_done (by kernel_rfl) ?_ _
                  go_wp2_with fail
                  go_roundw
                  case rel => exact ⟨b + 1, by omega, by go_num, hHeld.2, hHeld.1⟩
                  case measure => simp [intOf]; omega
                · rw [hx] at E1
                  clear hx hsf
                  refine wp_region_held_drew (S := (fun w' => PlA W w' p n f s bt' vv' vo' gs' ∧ w'.ownsRow W.heap.size 3 1 (.slice (some ⟨gl, 0, none⟩) cs.length cl) cs.length (cs.map fun c => .int .i64 (c : Nat)))) (by kernel_rfl) ?_ (fun hHeld => ?_)
                  · exact ⟨hPd, hod⟩
                  refine wpAnyH_take (i := 0) (oi := ⟨some 73, _, _, _, _, _⟩) (v := ?_) rfl (by kernel_rfl) (by kernel_rfl) (by kernel_rfl) (fun _ _ _ h => h) (Or.inl ⟨by rfl, ?_⟩) (by assumption) ?_
                  rotate_left
                  · (intro wq hSw; (try dsimp only at hSw); go_simp; try with_reducible rfl)
                  try simp only [Act.put, List.setIfInBounds_toArray, List.set_cons_zero, List.set_cons_succ]
                  refine wpAnyH_take (i := 1) (oi := ⟨some 74, _, _, _, _, _⟩) (v := ?_) rfl (by kernel_rfl) (by kernel_rfl) (by kernel_rfl) (fun _ _ _ h => h) (Or.inl ⟨by rfl, ?_⟩) (by assumption) ?_
                  rotate_left
                  · (intro wq hSw; (try dsimp only at hSw); go_simp; try with_reducible rfl)
                  try simp only [Act.put, List.setIfInBounds_toArray, List.set_cons_zero, List.set_cons_succ]
                  refine wpAnyH_take (i := 2) (oi := ⟨some 75, _, _, _, _, _⟩) (v := ?_) rfl (by kernel_rfl) (by kernel_rfl) (by kernel_rfl) (fun _ _ _ h => h) (Or.inl ⟨by rfl, ?_⟩) (by assumption) ?_
                  rotate_left
                  · (intro wq hSw; (try dsimp only at hSw); go_simp; try with_reducible rfl)
                  try simp only [Act.put, List.setIfInBounds_toArray, List.set_cons_zero, List.set_cons_succ]
                  refine wpAnyH_take (i := 3) (oi := ⟨some 76, _, _, _, _, _⟩) (v := ?_) rfl (by kernel_rfl) (by kernel_rfl) (by kernel_rfl) (fun _ _ _ h => h) (Or.inl ⟨by rfl, ?_⟩) (by assumption) ?_
                  rotate_left
                  · (intro wq hSw; (try dsimp only at hSw); have q := hSw.1.cells.1; go_simp; try with_reducible rfl)
                  try simp only [Act.put, List.setIfInBounds_toArray, List.set_cons_zero, List.set_cons_succ]
                  refine wpAnyH_take (i := 4) (oi := ⟨some 77, _, _, _, _, _⟩) (v := ?_) rfl (by kernel_rfl) (by kernel_rfl) (by kernel_rfl) (fun _ _ _ h => h) (Or.inl ⟨by rfl, ?_⟩) (by assumption) ?_
                  rotate_left
                  · (intro wq hSw; (try dsimp only at hSw); go_simp; try with_reducible rfl)
                  try simp only [Act.put, List.setIfInBounds_toArray, List.set_cons_zero, List.set_cons_succ]
                  refine wpAnyH_take (i := 5) (oi := ⟨some 78, _, _, _, _, _⟩) (v := ?_) rfl (by kernel_rfl) (by kernel_rfl) (by kernel_rfl) (fun _ _ _ h => h) (Or.inl ⟨by rfl, ?_⟩) (by assumption) ?_
                  rotate_left
                  · (intro wq hSw; (try dsimp only at hSw); go_simp; try with_reducible rfl)
                  try simp only [Act.put, List.setIfInBounds_toArray, List.set_cons_zero, List.set_cons_succ]
                  refine wpAnyH_take (i := 6) (oi := ⟨some 79, _, _, _, _, _⟩) (v := ?_) rfl (by kernel_rfl) (by kernel_rfl) (by kernel_rfl) (fun _ _ _ h => h) (Or.inl ⟨by rfl, ?_⟩) (by assumption) ?_
                  rotate_left
                  · (intro wq hSw; (try dsimp only at hSw); go_simp; try with_reducible rfl)
                  try simp only [Act.put, List.setIfInBounds_toArray, List.set_cons_zero, List.set_cons_succ]
                  refine wpAnyH_take (i := 7) (oi := ⟨some 80, _, _, _, _, _⟩) (v := ?_) rfl (by kernel_rfl) (by kernel_rfl) (by kernel_rfl) (fun _ _ _ h => h) (Or.inl ⟨by rfl, ?_⟩) (by assumption) ?_
                  rotate_left
                  · (intro wq hSw; (try dsimp only at hSw); have q := DA.out _ hSw.2; go_simp; try with_reducible rfl)
                  try simp only [Act.put, List.setIfInBounds_toArray, List.set_cons_zero, List.set_cons_succ]
                  refine wpAnyH_take (i := 8) (oi := ⟨some 81, _, _, _, _, _⟩) (v := ?_) rfl (by kernel_rfl) (by kernel_rfl) (by kernel_rfl) (fun _ _ _ h => h) (Or.inl ⟨by rfl, ?_⟩) (by assumption) ?_
                  rotate_left
                  · (intro wq hSw; (try dsimp only at hSw); go_simp; try with_reducible rfl)
                  try simp only [Act.put, List.setIfInBounds_toArray, List.set_cons_zero, List.set_cons_succ]
                  refine wpAnyH_take (i := 9) (oi := ⟨some 82, _, _, _, _, _⟩) (v := ?_) rfl (by kernel_rfl) (by kernel_rfl) (by kernel_rfl) (fun _ _ _ h => h) (Or.inl ⟨by rfl, ?_⟩) (by assumption) ?_
                  rotate_left
                  · (intro wq hSw; (try dsimp only at hSw); go_simp; try with_reducible rfl)
                  try simp only [Act.put, List.setIfInBounds_toArray, List.set_cons_zero, List.set_cons_succ]
                  refine wpAnyH_take (i := 10) (oi := ⟨some 83, _, _, _, _, _⟩) (v := ?_) rfl (by kernel_rfl) (by kernel_rfl) (by kernel_rfl) (fun _ _ _ h => h) (Or.inl ⟨by rfl, ?_⟩) (by assumption) ?_
                  rotate_left
                  · (intro wq hSw; (try dsimp only at hSw); go_simp; try with_reducible rfl)
                  try simp only [Act.put, List.setIfInBounds_toArray, List.set_cons_zero, List.set_cons_succ]
                  refine wpAnyH_take (i := 11) (oi := ⟨some 84, _, _, _, _, _⟩) (v := ?_) rfl (by kernel_rfl) (by kernel_rfl) (by kernel_rfl) (fun _ _ _ h => h) (Or.inl ⟨by rfl, ?_⟩) (by assumption) ?_
                  rotate_left
                  · (intro wq hSw; (try dsimp only at hSw); have q := DB.out _ hSw.2; go_simp; try with_reducible rfl)
                  try simp only [Act.put, List.setIfInBounds_toArray, List.set_cons_zero, List.set_cons_succ]
                  refine wpAnyH_ready (rs := [12]) (by kernel_rfl) (by simp) ?_
                  refine AllReadyH.cons (o := ⟨some 85, _, _, _, _, _⟩) rfl (fun K hK => ?_) AllReadyH.nil
                  go_simp
                  refine (E1 _ hHeld.1.tree).mono ?_; rintro e w7 ⟨rfl, k7⟩
                  refine hK.out _ _ (⟨hHeld.1.keep k7, Keeps.owns k7 hHeld.2 (fun _ _ h => h)⟩) (fun hHeld => ?_)
                  clear hK K
                  try simp only [Act.put, List.setIfInBounds_toArray, List.set_cons_zero, List.set_cons_succ]
                  refine wpAnyH_take (i := 13) (oi := ⟨some 86, _, _, _, _, _⟩) (v := ?_) rfl (by kernel_rfl) (by kernel_rfl) (by kernel_rfl) (fun _ _ _ h => h) (Or.inl ⟨by rfl, ?_⟩) (by assumption) ?_
                  rotate_left
                  · (intro wq hSw; (try dsimp only at hSw); go_simp; try with_reducible rfl)
                  try simp only [Act.put, List.setIfInBounds_toArray, List.set_cons_zero, List.set_cons_succ]
                  refine wpAnyH_take (i := 14) (oi := ⟨some 87, _, _, _, _, _⟩) (v := ?_) rfl (by kernel_rfl) (by kernel_rfl) (by kernel_rfl) (fun _ _ _ h => h) (Or.inl ⟨by rfl, ?_⟩) (by assumption) ?_
                  rotate_left
                  · (intro wq hSw; (try dsimp only at hSw); go_simp; try with_reducible rfl)
                  try simp only [Act.put, List.setIfInBounds_toArray, List.set_cons_zero, List.set_cons_succ]
                  refine wpAnyH_take (i := 15) (oi := ⟨some 88, _, _, _, _, _⟩) (v := undef) rfl (by kernel_rfl) (by kernel_rfl) (by kernel_rfl) (fun _ _ _ h => h) (Or.inr ⟨by rfl, rfl⟩) (by assumption) ?_
                  try simp only [Act.put, List.setIfInBounds_toArray, List.set_cons_zero, List.set_cons_succ]
                  refine wpAnyH_take (i := 16) (oi := ⟨some 89, _, _, _, _, _⟩) (v := undef) rfl (by kernel_rfl) (by kernel_rfl) (by kernel_rfl) (fun _ _ _ h => h) (Or.inr ⟨by rfl, rfl⟩) (by assumption) ?_
                  try simp only [Act.put, List.setIfInBounds_toArray, List.set_cons_zero, List.set_cons_succ]
                  refine wpAnyH_take (i := 17) (oi := ⟨some 90, _, _, _, _, _⟩) (v := undef) rfl (by kernel_rfl) (by kernel_rfl) (by kernel_rfl) (fun _ _ _ h => h) (Or.inr ⟨by rfl, rfl⟩) (by assumption) ?_
                  try simp only [Act.put, List.setIfInBounds_toArray, List.set_cons_zero, List.set_cons_succ]
                  refine wpAnyH_take (i := 18) (oi := ⟨some 91, _, _, _, _, _⟩) (v := undef) rfl (by kernel_rfl) (by kernel_rfl) (by kernel_rfl) (fun _ _ _ h => h) (Or.inr ⟨by rfl, rfl⟩) (by assumption) ?_
                  try simp only [Act.put, List.setIfInBounds_toArray, List.set_cons_zero, List.set_cons_succ]
                  refine wpAnyH_take (i := 19) (oi := ⟨some 92, _, _, _, _, _⟩) (v := undef) rfl (by kernel_rfl) (by kernel_rfl) (by kernel_rfl) (fun _ _ _ h => h) (Or.inr ⟨by rfl, rfl⟩) (by assumption) ?_
                  try simp only [Act.put, List.setIfInBounds_toArray, List.set_cons_zero, List.set_cons_succ]
                  refine wpAnyH_take (i := 20) (oi := ⟨some 93, _, _, _, _, _⟩) (v := undef) rfl (by kernel_rfl) (by kernel_rfl) (by kernel_rfl) (fun _ _ _ h => h) (Or.inr ⟨by rfl, rfl⟩) (by assumption) ?_
                  try simp only [Act.put, List.setIfInBounds_toArray, List.set_cons_zero, List.set_cons_succ]
                  refine wpAnyH_take (i := 21) (oi := ⟨some 94, _, _, _, _, _⟩) (v := undef) rfl (by kernel_rfl) (by kernel_rfl) (by kernel_rfl) (fun _ _ _ h => h) (Or.inr ⟨by rfl, rfl⟩) (by assumption) ?_
                  try simp only [Act.put, List.setIfInBounds_toArray, List.set_cons_zero, List.set_cons_succ]
                  refine wpAnyH_take (i := 22) (oi := ⟨some 95, _, _, _, _, _⟩) (v := undef) rfl (by kernel_rfl) (by kernel_rfl) (by kernel_rfl) (fun _ _ _ h => h) (Or.inr ⟨by rfl, rfl⟩) (by assumption) ?_
                  try simp only [Act.put, List.setIfInBounds_toArray, List.set_cons_zero, List.set_cons_succ]
                  refine wpAnyH_take (i := 23) (oi := ⟨some 96, _, _, _, _, _⟩) (v := undef) rfl (by kernel_rfl) (by kernel_rfl) (by kernel_rfl) (fun _ _ _ h => h) (Or.inr ⟨by rfl, rfl⟩) (by assumption) ?_
                  try simp only [Act.put, List.setIfInBounds_toArray, List.set_cons_zero, List.set_cons_succ]
                  refine wpAnyH_take (i := 24) (oi := ⟨some 97, _, _, _, _, _⟩) (v := undef) rfl (by kernel_rfl) (by kernel_rfl) (by kernel_rfl) (fun _ _ _ h => h) (Or.inr ⟨by rfl, rfl⟩) (by assumption) ?_
                  try simp only [Act.put, List.setIfInBounds_toArray, List.set_cons_zero, List.set_cons_succ]
                  refine wpAnyH_take (i := 25) (oi := ⟨some 98, _, _, _, _, _⟩) (v := undef) rfl (by kernel_rfl) (by kernel_rfl) (by kernel_rfl) (fun _ _ _ h => h) (Or.inr ⟨by rfl, rfl⟩) (by assumption) ?_
                  try simp only [Act.put, List.setIfInBounds_toArray, List.set_cons_zero, List.set_cons_succ]
                  refine wpAnyH_take (i := 26) (oi := ⟨some 99, _, _, _, _, _⟩) (v := undef) rfl (by kernel_rfl) (by kernel_rfl) (by kernel_rfl) (fun _ _ _ h => h) (Or.inr ⟨by rfl, rfl⟩) (by assumption) ?_
                  try simp only [Act.put, List.setIfInBounds_toArray, List.set_cons_zero, List.set_cons_succ]
                  refine wpAnyH_take (i := 27) (oi := ⟨some 100, _, _, _, _, _⟩) (v := undef) rfl (by kernel_rfl) (by kernel_rfl) (by kernel_rfl) (fun _ _ _ h => h) (Or.inr ⟨by rfl, rfl⟩) (by assumption) ?_
                  try simp only [Act.put, List.setIfInBounds_toArray, List.set_cons_zero, List.set_cons_succ]
                  refine wpAnyH_take (i := 28) (oi := ⟨some 101, _, _, _, _, _⟩) (v := undef) rfl (by kernel_rfl) (by kernel_rfl) (by kernel_rfl) (fun _ _ _ h => h) (Or.inr ⟨by rfl, rfl⟩) (by assumption) ?_
                  try simp only [Act.put, List.setIfInBounds_toArray, List.set_cons_zero, List.set_cons_succ]
                  refine wpAnyH_take (i := 29) (oi := ⟨some 102, _, _, _, _, _⟩) (v := ?_) rfl (by kernel_rfl) (by kernel_rfl) (by kernel_rfl) (fun _ _ _ h => h) (Or.inl ⟨by rfl, ?_⟩) (by assumption) ?_
                  rotate_left
                  · (intro wq hSw; (try dsimp only at hSw); go_simp; try with_reducible rfl)
                  try simp only [Act.put, List.setIfInBounds_toArray, List.set_cons_zero, List.set_cons_succ]
                  refine wpAnyH_done (by kernel_rfl) ?_ _
                  go_wp2_with fail
                  go_roundw
                  case rel => exact ⟨b + 1, by omega, by go_num, hHeld.2, hHeld.1⟩
                  case measure => simp [intOf]; omega
              · obtain rfl : b = a := by omega
                go_wp2_with fail
                go_roundw
                case rel => exact ⟨b + 1, by omega, by go_num, hown, hP⟩
                case measure => simp [intOf]; omega
          · obtain rfl : a = cs.length := by omega
            go_wp2_with fail
            go_ret
            exact ⟨rfl, hP.tree.new⟩
end Go.Proofs.Ytefbdikoichaeaa
