/-
  VOTE: voussoirlaw13.begins.
-/
import Derived.Test.YtefbdikoichaeaaVtP2
import Derived.Deep.Cut
namespace Go.Proofs.Ytefbdikoichaeaa
open Go.RowKit
attribute [local go_sem ↓] Go.wp_at_zero Go.wp_at_succ

/-- a voter more -/
theorem PlA.addVo {w0 w w2 : World} {p n f : Nat} {s : Ps} {bt : Nat} {vv vo : Value} {gs : List Nat} (h : PlA w0 w p n f s bt vv vo gs) {o : Obj} {g2 cap2 : Nat}
    (hown : w2.ownsRow w0.heap.size 43 2 (.slice (some ⟨g2, 0, none⟩) (s.vs.length + 1) cap2) (s.vs.length + 1) (votV s.vs ++ [.int .u64 0, .int .i64 0]))
    (hg : (w.alloc o).grownBy w2 vv.ownBlock) :
    PlA w0 (w2.setCell ⟨p, 3, none⟩ (.slice (some ⟨g2, 0, none⟩) (s.vs.length + 1) cap2)) p n f ⟨s.l, s.vs ++ [⟨0, 0⟩], s.rows⟩ bt (.slice (some ⟨g2, 0, none⟩) (s.vs.length + 1) cap2) vo gs := by
  have n1 : New w (w.alloc o) := (Keeps.refl _ w).alloc _
  have k1 : KT (fun t => t == 43) w (w.alloc o) := KT.of_new n1
  generalize w.alloc o = w1 at *
  have hty : ∀ k, vv.ownBlock = some k → ∃ c f, w1.heap[k]? = some (.cells c 43 f) := fun k hk => by
    obtain ⟨c, f, hh⟩ := own_type h.vot k hk
    exact ⟨c, f, n1.kept hh (fun h => h)⟩
  have k2 := k1.trans (KT.grown hg hty)
  have nn1 : New w0 w1 := h.tree.new.then n1 (fun _ h => h.elim)
  have n2 : New w0 w2 := nn1.grown hg (fun k hk => own_ge h.vot k hk)
  have hp2 := k2 _ _ _ _ h.blk rfl
  have k3 := KT.set hp2 3 (.slice (some ⟨g2, 0, none⟩) (s.vs.length + 1) cap2)
  have n3 : New w0 (w2.setCell ⟨p, 3, none⟩ (.slice (some ⟨g2, 0, none⟩) (s.vs.length + 1) cap2)) := n2.set h.ge 3 _
  refine ⟨?_, ?_, ?_, ?_, h.len, h.nod, ?_, h.ge⟩
  · rw [heap_setCell_blk hp2]; simp
  · exact k3.tr (k2.tr h.tree n2 rfl rfl) n3 rfl rfl
  · show World.ownsRow _ _ _ _ _ (s.vs ++ [(⟨0, 0⟩ : Vo)]).length (votV (s.vs ++ [(⟨0, 0⟩ : Vo)]))
    rw [votV_append, List.length_append]
    exact k3.owns hown rfl
  · exact k3.owns (k2.owns h.rws rfl) rfl
  · intro i g hig
    exact ⟨(h.row i g hig).1, k3 _ _ _ _ (k2 _ _ _ _ (h.row i g hig).2 rfl) rfl⟩
theorem rep_succ (k : Nat) (x : Vo) : List.replicate k x ++ [x] = List.replicate (k + 1) x := by rw [List.replicate_succ']

set_option maxHeartbeats 4000000 in
theorem begins4 (w0 w : World) (n0 : New w0 w) :
    Calls Try.prog 33 #[.bool false] w fun e w' => ∃ p, e = .returned (.pointer (some ⟨p, 0, none⟩)) ∧ Pl w0 w' p 4 1 (beg 4) := by
  obtain ⟨i0, hi, hz0, hz1, hz2⟩ := info_parts infoVo
  obtain ⟨j0, hj, hy0, hy1, hy2⟩ := info_parts infoSl
  go_enter Try.func33, Try.ntmps33
  go_wp2_with fail
  refine (newT w0 w n0).mono ?_
  rintro e w1 ⟨rfl, hT⟩
  go_wp2_with fail
  have hblk := heap_alloc_new w1 (.cells #[.pointer (some ⟨w.heap.size + 1, 0, none⟩), .int .i64 4, .int .i64 1, .slice none 0 0, .slice none 0 0] 54)
  have hT2 := hT.keep ((New.refl w1).alloc (.cells #[.pointer (some ⟨w.heap.size + 1, 0, none⟩), .int .i64 4, .int .i64 1, .slice none 0 0, .slice none 0 0] 54))
  have hsz := hT.new.size
  clear hT
  generalize w1.alloc _ = W at *
  generalize w1.heap.size = p at *
  generalize w.heap.size + 1 = bt at *
  obtain ⟨N, hN⟩ : ∃ N : Nat, N = 4 := ⟨_, rfl⟩
  obtain ⟨F, hF⟩ : ∃ F : Nat, F = 1 := ⟨_, rfl⟩
  have hP : PlA w0 W p N F ⟨[⟨0, 0, 0⟩], [], []⟩ bt (.slice none 0 0) (.slice none 0 0) [] := by
    subst hN hF
    exact ⟨hblk, hT2, World.ownsRow_nil _ _ _ _, World.ownsRow_nil _ _ _ _, rfl, List.nodup_nil, (fun i g h => by simp at h), hsz⟩
  have HN := Lib.hid hN
  have HF := Lib.hid hF
  have hN1 : N ≤ 100 := by omega
  have hN0 : 0 < N := by omega
  clear hT2 hN hF hblk hsz
  go_loopw [4] (fun i wr => ∃ (k : Nat) (vv : Value), k ≤ N ∧ i = .int .i64 k ∧ PlA w0 wr p N F ⟨[⟨0, 0, 0⟩], List.replicate k ⟨0, 0⟩, []⟩ bt vv (.slice none 0 0) [])
    (fun i _ => N - (intOf i).toNat)
  case atStart => exact ⟨0, _, by omega, rfl, hP⟩
  case round =>
    clear hP
    obtain ⟨k, vv, hk, rfl, hP⟩ := hrel
    have hc := hP.cells
    have hlt0 := hP.lt
    by_cases hlt : k < N
    · have hvl : (List.replicate k (⟨0, 0⟩ : Vo)).length = k := List.length_replicate
      have hown := hP.vot
      rw [show ({ l := [⟨0, 0, 0⟩], vs := List.replicate k ⟨0, 0⟩, rows := [] } : Ps).vs.length = k from hvl] at hown
      have hg0 := hP.tree.new.size
      go_wp2_with (at_builtin; go_loud (refine wpList_append_lies _ rfl _ _ _ rfl w0.heap.size 43 i0 _ 2 16 Try.underlying51 hi hz0 hz1 hz2 rfl (by omega) vv k _ rfl (hown.alloc _) ⟨wr.heap.size, 0, none⟩ 1 1 [.int .u64 0, .int .i64 0] rfl rfl (World.news_of_block (cs := #[.int .u64 0, .int .i64 0]) (t := 43) (fr := (0, 0)) (heap_alloc_new wr _)) (by simp [Value.oneCell']) (by omega) ?c1 ?c2 ?c3 (wr.heap.size + 1) (by simp) ?_))
      case c1 => unfold maxLen; omega
      case c2 => omega
      case c3 => first | omega | (simp; omega)
      intro g2 cap2 w2 hown2 hgrow hat hlt2
      have hP2 := hP.addVo (o := .cells #[.int .u64 0, .int .i64 0] 43) (g2 := g2) (cap2 := cap2) (by rw [show ({ l := [⟨0, 0, 0⟩], vs := List.replicate k ⟨0, 0⟩, rows := [] } : Ps).vs.length = k from hvl]; exact hown2) hgrow
      rw [show ({ l := [⟨0, 0, 0⟩], vs := List.replicate k ⟨0, 0⟩, rows := [] } : Ps).vs.length = k from hvl] at hP2
      have hP3 : PlA w0 (w2.setCell ⟨p, 3, none⟩ (.slice (some ⟨g2, 0, none⟩) (k + 1) cap2)) p N F ⟨[⟨0, 0, 0⟩], List.replicate (k + 1) ⟨0, 0⟩, []⟩ bt (.slice (some ⟨g2, 0, none⟩) (k + 1) cap2) (.slice none 0 0) [] := by
        rw [← rep_succ]; exact hP2
      have hpn : (wr.alloc (.cells #[.int .u64 0, .int .i64 0] 43)).heap[p]? = some (.cells #[.pointer (some ⟨bt, 0, none⟩), .int .i64 N, .int .i64 F, vv, .slice none 0 0] 54 (0, 0)) := (heap_alloc_old _ _ hlt0).trans hP.blk
      have hp2 := KT.grown hgrow (own_type (hown.alloc _)) _ _ _ _ hpn rfl
      have x1 := cell_blk hp2 3
      have x2 := frozen_blk hp2 3
      simp only [List.getElem?_toArray, List.getElem?_cons_zero, List.getElem?_cons_succ] at x1
      have HP := Lib.hid hP3
      clear hP2 hP3 hown2 hgrow hat hlt2 hown hvl hp2 hpn
      go_wp2_with fail
      go_roundw
      case rel => exact ⟨k + 1, _, by omega, by go_num, HP.out⟩
      case measure => simp [intOf]; omega
    · obtain rfl : k = N := by omega
      go_upto_region 9 with (fail)
      have hPd := hP.drew
      have hb : w0.heap.size ≤ wr.drew.heap.size := hPd.tree.new.size
      have SK : ∀ wa wb : World, (New w0 wa ∧ wa.cell? ⟨p, 1, none⟩ = some (.int .i64 k) ∧ p < wa.heap.size) → New wa wb → (New w0 wb ∧ wb.cell? ⟨p, 1, none⟩ = some (.int .i64 k) ∧ p < wb.heap.size) :=
        fun wa wb h n => ⟨h.1.then n (fun _ h => h.elim), (n.cell h.2.2 (fun h => h)).trans h.2.1, Nat.lt_of_lt_of_le h.2.2 n.size⟩
      have hmk := mk_bools k hN1
      clear hP hc hlt0
      refine wp_region_held_drew (S := (fun w' => New w0 w' ∧ w'.cell? ⟨p, 1, none⟩ = some (.int .i64 k) ∧ p < w'.heap.size)) (by kernel_rfl) ?_ (fun hHeld => ?_)
      · exact ⟨hPd.tree.new, hPd.cells.2.1, hPd.lt⟩
      generalize World.drew wr = wq at *; have hcq := hPd.cells; have hlq := hPd.lt; have q1 : New wq (wq.alloc (.cells (boolV (List.replicate k false)).toArray 4)) := (New.refl wq).alloc _; have q2 : New wq ((wq.alloc (.cells (boolV (List.replicate k false)).toArray 4)).alloc (.cells #[.slice (some ⟨wq.heap.size, 0, none⟩) k k] 58)) := q1.alloc _; have hS0 := hHeld
      refine wpAnyH_take (i := 0) (oi := ⟨some 33, _, _, _, _, _⟩) (v := ?_) rfl (by kernel_rfl) (by kernel_rfl) (by kernel_rfl) (fun _ _ _ h => h) (Or.inl ⟨by rfl, ?_⟩) (by assumption) ?_
      rotate_left
      · (intro wq hSw; (try dsimp only at hSw); go_simp; try with_reducible rfl)
      try simp only [Act.put, List.setIfInBounds_toArray, List.set_cons_zero, List.set_cons_succ]
      refine wpAnyH_take (i := 1) (oi := ⟨some 34, _, _, _, _, _⟩) (v := ?_) rfl (by kernel_rfl) (by kernel_rfl) (by kernel_rfl) (fun _ _ _ h => h) (Or.inl ⟨by rfl, ?_⟩) (by assumption) ?_
      rotate_left
      · (intro wq hSw; (try dsimp only at hSw); go_simp; try with_reducible rfl)
      try simp only [Act.put, List.setIfInBounds_toArray, List.set_cons_zero, List.set_cons_succ]
      refine wpAnyH_take (i := 2) (oi := ⟨some 35, _, _, _, _, _⟩) (v := ?_) rfl (by kernel_rfl) (by kernel_rfl) (by kernel_rfl) (fun _ _ _ h => h) (Or.inl ⟨by rfl, ?_⟩) (by assumption) ?_
      rotate_left
      · (intro wq hSw; (try dsimp only at hSw); go_simp; try with_reducible rfl)
      try simp only [Act.put, List.setIfInBounds_toArray, List.set_cons_zero, List.set_cons_succ]
      refine wpAnyH_take (i := 3) (oi := ⟨some 36, _, _, _, _, _⟩) (v := ?_) rfl (by kernel_rfl) (by kernel_rfl) (by kernel_rfl) (fun _ _ _ h => h) (Or.inl ⟨by rfl, ?_⟩) (by assumption) ?_
      rotate_left
      · (intro wq hSw; (try dsimp only at hSw); go_simp; try with_reducible rfl)
      try simp only [Act.put, List.setIfInBounds_toArray, List.set_cons_zero, List.set_cons_succ]
      refine wpAnyH_take (i := 5) (oi := ⟨some 38, _, _, _, _, _⟩) (v := ?_) rfl (by kernel_rfl) (by kernel_rfl) (by kernel_rfl) (fun _ _ _ h => h) (Or.inl ⟨by rfl, ?_⟩) (by assumption) ?_
      rotate_left
      · (intro wq hSw; (try dsimp only at hSw); go_simp; try with_reducible rfl)
      try simp only [Act.put, List.setIfInBounds_toArray, List.set_cons_zero, List.set_cons_succ]
      refine wpAnyH_take (i := 6) (oi := ⟨some 39, _, _, _, _, _⟩) (v := ?_) rfl (by kernel_rfl) (by kernel_rfl) (by kernel_rfl) (fun _ _ _ h => h) (Or.inl ⟨by rfl, ?_⟩) (by assumption) ?_
      rotate_left
      · (intro wq hSw; (try dsimp only at hSw); go_simp; try with_reducible rfl)
      try simp only [Act.put, List.setIfInBounds_toArray, List.set_cons_zero, List.set_cons_succ]
      refine wpAnyH_take (i := 7) (oi := ⟨some 40, _, _, _, _, _⟩) (v := ?_) rfl (by kernel_rfl) (by kernel_rfl) (by kernel_rfl) (fun _ _ _ h => h) (Or.inl ⟨by rfl, ?_⟩) (by assumption) ?_
      rotate_left
      · (intro wq hSw; (try dsimp only at hSw); go_simp; try with_reducible rfl)
      try simp only [Act.put, List.setIfInBounds_toArray, List.set_cons_zero, List.set_cons_succ]
      refine wpAnyH_take (i := 8) (oi := ⟨some 41, _, _, _, _, _⟩) (v := ?_) rfl (by kernel_rfl) (by kernel_rfl) (by kernel_rfl) (fun _ _ _ h => h) (Or.inl ⟨by rfl, ?_⟩) (by assumption) ?_
      rotate_left
      · (intro wq hSw; (try dsimp only at hSw); go_simp; try with_reducible rfl)
      try simp only [Act.put, List.setIfInBounds_toArray, List.set_cons_zero, List.set_cons_succ]
      refine wpAnyH_ready (rs := [4, 9]) (by kernel_rfl) (by simp) ?_
      refine AllReadyH.cons (o := ⟨some 37, _, _, _, _, _⟩) rfl (fun K hK => ?_) (AllReadyH.cons (o := ⟨some 42, _, _, _, _, _⟩) rfl (fun K hK => ?_) AllReadyH.nil)
      focus
        go_simp
        refine hK.out _ _ hHeld (fun hHeld => ?_)
        clear hK K
        try simp only [Act.put, List.setIfInBounds_toArray, List.set_cons_zero, List.set_cons_succ]
        refine wpAnyH_ready (rs := [9]) (by kernel_rfl) (by simp) ?_
        refine AllReadyH.cons (o := ⟨some 42, _, _, _, _, _⟩) rfl (fun K hK => ?_) AllReadyH.nil
        go_simp
        refine hK.out _ _ (SK _ _ hS0 q1) (fun hHeld => ?_)
        clear hK K
        try simp only [Act.put, List.setIfInBounds_toArray, List.set_cons_zero, List.set_cons_succ]
        refine wpAnyH_ready (rs := [10]) (by kernel_rfl) (by simp) ?_
        refine AllReadyH.cons (o := ⟨some 43, _, _, _, _, _⟩) rfl (fun K hK => ?_) AllReadyH.nil
        go_simp
        refine hK.out _ _ (SK _ _ hS0 q2) (fun hHeld => ?_)
        clear hK K
        try simp only [Act.put, List.setIfInBounds_toArray, List.set_cons_zero, List.set_cons_succ]
        refine wpAnyH_ready (rs := [11]) (by kernel_rfl) (by simp) ?_
        refine AllReadyH.cons (o := ⟨some 44, _, _, _, _, _⟩) rfl (fun K hK => ?_) AllReadyH.nil
        refine step_append_lies _ (by rfl) _ _ _ (by rfl) w0.heap.size 58 j0 _ 1 24 Try.underlying52 hj hy0 hy1 hy2 rfl (by omega) _ _ [] (by rfl) (World.ownsRow_nil _ _ _ _) ⟨wq.heap.size + 1, 0, none⟩ 1 1 [.slice (some ⟨wq.heap.size, 0, none⟩) k k] (by rfl) (by rfl) (World.news_of_block (cs := #[.slice (some ⟨wq.heap.size, 0, none⟩) k k]) (t := 58) (fr := (0, 0)) (blk2_1 wq _ _)) (by simp [Value.oneCell']) (by omega) (by unfold maxLen; omega) (by omega) (by simp; omega) (wq.heap.size + 2) (by simp) ?_; intro g2 cap2 w2 hown2 hgrow hat hlt2; have hG := hPd.addRow hown2 hgrow; have hpn := q2.kept hPd.blk (fun h => h); have hp2 := KT.grown hgrow (fun _ h => by simp [Value.ownBlock] at h) _ _ _ _ hpn (show (fun t => t == 58) _ = false from rfl); have x1 := cell_blk hp2 4; have x2 := frozen_blk hp2 4; simp only [List.getElem?_toArray, List.getElem?_cons_zero, List.getElem?_cons_succ] at x1; have nG := hS0.1.then q2 (fun _ h => h.elim); have nG2 := nG.grown hgrow (fun _ h => by simp [Value.ownBlock] at h)
        refine hK.out _ _ (⟨nG2, by rw [cell_blk hp2]; rfl, (Array.getElem?_eq_some_iff.1 hp2).1⟩) (fun hHeld => ?_)
        clear hK K
        try simp only [Act.put, List.setIfInBounds_toArray, List.set_cons_zero, List.set_cons_succ]
        refine wpAnyH_take (i := 12) (oi := ⟨some 45, _, _, _, _, _⟩) (v := ?_) rfl (by kernel_rfl) (by kernel_rfl) (by kernel_rfl) (fun _ _ _ h => h) (Or.inl ⟨by rfl, ?_⟩) (by assumption) ?_
        rotate_left
        · (intro wq hSw; (try dsimp only at hSw); go_simp; try with_reducible rfl)
        try simp only [Act.put, List.setIfInBounds_toArray, List.set_cons_zero, List.set_cons_succ]
        refine wpAnyH_take (i := 13) (oi := ⟨some 46, _, _, _, _, _⟩) (v := ?_) rfl (by kernel_rfl) (by kernel_rfl) (by kernel_rfl) (fun _ _ _ h => h) (Or.inl ⟨by rfl, ?_⟩) (by assumption) ?_
        rotate_left
        · (intro wq hSw; (try dsimp only at hSw); go_simp; try with_reducible rfl)
        try simp only [Act.put, List.setIfInBounds_toArray, List.set_cons_zero, List.set_cons_succ]
        refine wpAnyH_ready (rs := [14]) (by kernel_rfl) (by simp) ?_
        refine AllReadyH.cons (o := ⟨none, _, _, _, _, _⟩) rfl (fun K hK => ?_) AllReadyH.nil
        go_simp
        refine hK.out _ _ (⟨hG.tree.new, hG.cells.2.1, hG.lt⟩) (fun hHeld => ?_)
        clear hK K
        try simp only [Act.put, List.setIfInBounds_toArray, List.set_cons_zero, List.set_cons_succ]
        refine wpAnyH_done (by kernel_rfl) ?_ _
      rotate_left 1
      focus
        go_simp
        refine hK.out _ _ (SK _ _ hS0 q1) (fun hHeld => ?_)
        clear hK K
        try simp only [Act.put, List.setIfInBounds_toArray, List.set_cons_zero, List.set_cons_succ]
        refine wpAnyH_ready (rs := [4, 10]) (by kernel_rfl) (by simp) ?_
        refine AllReadyH.cons (o := ⟨some 37, _, _, _, _, _⟩) rfl (fun K hK => ?_) (AllReadyH.cons (o := ⟨some 43, _, _, _, _, _⟩) rfl (fun K hK => ?_) AllReadyH.nil)
        focus
          go_simp
          refine hK.out _ _ hHeld (fun hHeld => ?_)
          clear hK K
          try simp only [Act.put, List.setIfInBounds_toArray, List.set_cons_zero, List.set_cons_succ]
          refine wpAnyH_ready (rs := [10]) (by kernel_rfl) (by simp) ?_
          refine AllReadyH.cons (o := ⟨some 43, _, _, _, _, _⟩) rfl (fun K hK => ?_) AllReadyH.nil
          go_simp
          refine hK.out _ _ (SK _ _ hS0 q2) (fun hHeld => ?_)
          clear hK K
          try simp only [Act.put, List.setIfInBounds_toArray, List.set_cons_zero, List.set_cons_succ]
          refine wpAnyH_ready (rs := [11]) (by kernel_rfl) (by simp) ?_
          refine AllReadyH.cons (o := ⟨some 44, _, _, _, _, _⟩) rfl (fun K hK => ?_) AllReadyH.nil
          refine step_append_lies _ (by rfl) _ _ _ (by rfl) w0.heap.size 58 j0 _ 1 24 Try.underlying52 hj hy0 hy1 hy2 rfl (by omega) _ _ [] (by rfl) (World.ownsRow_nil _ _ _ _) ⟨wq.heap.size + 1, 0, none⟩ 1 1 [.slice (some ⟨wq.heap.size, 0, none⟩) k k] (by rfl) (by rfl) (World.news_of_block (cs := #[.slice (some ⟨wq.heap.size, 0, none⟩) k k]) (t := 58) (fr := (0, 0)) (blk2_1 wq _ _)) (by simp [Value.oneCell']) (by omega) (by unfold maxLen; omega) (by omega) (by simp; omega) (wq.heap.size + 2) (by simp) ?_; intro g2 cap2 w2 hown2 hgrow hat hlt2; have hG := hPd.addRow hown2 hgrow; have hpn := q2.kept hPd.blk (fun h => h); have hp2 := KT.grown hgrow (fun _ h => by simp [Value.ownBlock] at h) _ _ _ _ hpn (show (fun t => t == 58) _ = false from rfl); have x1 := cell_blk hp2 4; have x2 := frozen_blk hp2 4; simp only [List.getElem?_toArray, List.getElem?_cons_zero, List.getElem?_cons_succ] at x1; have nG := hS0.1.then q2 (fun _ h => h.elim); have nG2 := nG.grown hgrow (fun _ h => by simp [Value.ownBlock] at h)
          refine hK.out _ _ (⟨nG2, by rw [cell_blk hp2]; rfl, (Array.getElem?_eq_some_iff.1 hp2).1⟩) (fun hHeld => ?_)
          clear hK K
          try simp only [Act.put, List.setIfInBounds_toArray, List.set_cons_zero, List.set_cons_succ]
          refine wpAnyH_take (i := 12) (oi := ⟨some 45, _, _, _, _, _⟩) (v := ?_) rfl (by kernel_rfl) (by kernel_rfl) (by kernel_rfl) (fun _ _ _ h => h) (Or.inl ⟨by rfl, ?_⟩) (by assumption) ?_
          rotate_left
          · (intro wq hSw; (try dsimp only at hSw); go_simp; try with_reducible rfl)
          try simp only [Act.put, List.setIfInBounds_toArray, List.set_cons_zero, List.set_cons_succ]
          refine wpAnyH_take (i := 13) (oi := ⟨some 46, _, _, _, _, _⟩) (v := ?_) rfl (by kernel_rfl) (by kernel_rfl) (by kernel_rfl) (fun _ _ _ h => h) (Or.inl ⟨by rfl, ?_⟩) (by assumption) ?_
          rotate_left
          · (intro wq hSw; (try dsimp only at hSw); go_simp; try with_reducible rfl)
          try simp only [Act.put, List.setIfInBounds_toArray, List.set_cons_zero, List.set_cons_succ]
          refine wpAnyH_ready (rs := [14]) (by kernel_rfl) (by simp) ?_
          refine AllReadyH.cons (o := ⟨none, _, _, _, _, _⟩) rfl (fun K hK => ?_) AllReadyH.nil
          go_simp
          refine hK.out _ _ (⟨hG.tree.new, hG.cells.2.1, hG.lt⟩) (fun hHeld => ?_)
          clear hK K
          try simp only [Act.put, List.setIfInBounds_toArray, List.set_cons_zero, List.set_cons_succ]
          refine wpAnyH_done (by kernel_rfl) ?_ _
        rotate_left 1
        focus
          go_simp
          refine hK.out _ _ (SK _ _ hS0 q2) (fun hHeld => ?_)
          clear hK K
          try simp only [Act.put, List.setIfInBounds_toArray, List.set_cons_zero, List.set_cons_succ]
          refine wpAnyH_ready (rs := [4]) (by kernel_rfl) (by simp) ?_
          refine AllReadyH.cons (o := ⟨some 37, _, _, _, _, _⟩) rfl (fun K hK => ?_) AllReadyH.nil
          go_simp
          refine hK.out _ _ hHeld (fun hHeld => ?_)
          clear hK K
          try simp only [Act.put, List.setIfInBounds_toArray, List.set_cons_zero, List.set_cons_succ]
          refine wpAnyH_ready (rs := [11]) (by kernel_rfl) (by simp) ?_
          refine AllReadyH.cons (o := ⟨some 44, _, _, _, _, _⟩) rfl (fun K hK => ?_) AllReadyH.nil
          refine step_append_lies _ (by rfl) _ _ _ (by rfl) w0.heap.size 58 j0 _ 1 24 Try.underlying52 hj hy0 hy1 hy2 rfl (by omega) _ _ [] (by rfl) (World.ownsRow_nil _ _ _ _) ⟨wq.heap.size + 1, 0, none⟩ 1 1 [.slice (some ⟨wq.heap.size, 0, none⟩) k k] (by rfl) (by rfl) (World.news_of_block (cs := #[.slice (some ⟨wq.heap.size, 0, none⟩) k k]) (t := 58) (fr := (0, 0)) (blk2_1 wq _ _)) (by simp [Value.oneCell']) (by omega) (by unfold maxLen; omega) (by omega) (by simp; omega) (wq.heap.size + 2) (by simp) ?_; intro g2 cap2 w2 hown2 hgrow hat hlt2; have hG := hPd.addRow hown2 hgrow; have hpn := q2.kept hPd.blk (fun h => h); have hp2 := KT.grown hgrow (fun _ h => by simp [Value.ownBlock] at h) _ _ _ _ hpn (show (fun t => t == 58) _ = false from rfl); have x1 := cell_blk hp2 4; have x2 := frozen_blk hp2 4; simp only [List.getElem?_toArray, List.getElem?_cons_zero, List.getElem?_cons_succ] at x1; have nG := hS0.1.then q2 (fun _ h => h.elim); have nG2 := nG.grown hgrow (fun _ h => by simp [Value.ownBlock] at h)
          refine hK.out _ _ (⟨nG2, by rw [cell_blk hp2]; rfl, (Array.getElem?_eq_some_iff.1 hp2).1⟩) (fun hHeld => ?_)
          clear hK K
          try simp only [Act.put, List.setIfInBounds_toArray, List.set_cons_zero, List.set_cons_succ]
          refine wpAnyH_take (i := 12) (oi := ⟨some 45, _, _, _, _, _⟩) (v := ?_) rfl (by kernel_rfl) (by kernel_rfl) (by kernel_rfl) (fun _ _ _ h => h) (Or.inl ⟨by rfl, ?_⟩) (by assumption) ?_
          rotate_left
          · (intro wq hSw; (try dsimp only at hSw); go_simp; try with_reducible rfl)
          try simp only [Act.put, List.setIfInBounds_toArray, List.set_cons_zero, List.set_cons_succ]
          refine wpAnyH_take (i := 13) (oi := ⟨some 46, _, _, _, _, _⟩) (v := ?_) rfl (by kernel_rfl) (by kernel_rfl) (by kernel_rfl) (fun _ _ _ h => h) (Or.inl ⟨by rfl, ?_⟩) (by assumption) ?_
          rotate_left
          · (intro wq hSw; (try dsimp only at hSw); go_simp; try with_reducible rfl)
          try simp only [Act.put, List.setIfInBounds_toArray, List.set_cons_zero, List.set_cons_succ]
          refine wpAnyH_ready (rs := [14]) (by kernel_rfl) (by simp) ?_
          refine AllReadyH.cons (o := ⟨none, _, _, _, _, _⟩) rfl (fun K hK => ?_) AllReadyH.nil
          go_simp
          refine hK.out _ _ (⟨hG.tree.new, hG.cells.2.1, hG.lt⟩) (fun hHeld => ?_)
          clear hK K
          try simp only [Act.put, List.setIfInBounds_toArray, List.set_cons_zero, List.set_cons_succ]
          refine wpAnyH_done (by kernel_rfl) ?_ _
        rotate_left 1
      rotate_left 2
      all_goals (
        clear hPd hcq q1 q2 hS0 hown2 hgrow hat hpn hp2 x1 x2 nG nG2 hmk SK
        go_wp2_with fail
        go_ret
        refine ⟨p, rfl, ?_⟩
        have e1 := HN.out
        have e2 := HF.out
        subst e1 e2
        exact ⟨_, _, _, _, hG⟩)
set_option maxHeartbeats 4000000 in
theorem begins7 (w0 w : World) (n0 : New w0 w) :
    Calls Try.prog 33 #[.bool true] w fun e w' => ∃ p, e = .returned (.pointer (some ⟨p, 0, none⟩)) ∧ Pl w0 w' p 7 2 (beg 7) := by
  obtain ⟨i0, hi, hz0, hz1, hz2⟩ := info_parts infoVo
  obtain ⟨j0, hj, hy0, hy1, hy2⟩ := info_parts infoSl
  go_enter Try.func33, Try.ntmps33
  go_wp2_with fail
  refine (newT w0 w n0).mono ?_
  rintro e w1 ⟨rfl, hT⟩
  go_wp2_with fail
  have hblk := heap_alloc_new w1 (.cells #[.pointer (some ⟨w.heap.size + 1, 0, none⟩), .int .i64 7, .int .i64 2, .slice none 0 0, .slice none 0 0] 54)
  have hT2 := hT.keep ((New.refl w1).alloc (.cells #[.pointer (some ⟨w.heap.size + 1, 0, none⟩), .int .i64 7, .int .i64 2, .slice none 0 0, .slice none 0 0] 54))
  have hsz := hT.new.size
  clear hT
  generalize w1.alloc _ = W at *
  generalize w1.heap.size = p at *
  generalize w.heap.size + 1 = bt at *
  obtain ⟨N, hN⟩ : ∃ N : Nat, N = 7 := ⟨_, rfl⟩
  obtain ⟨F, hF⟩ : ∃ F : Nat, F = 2 := ⟨_, rfl⟩
  have hP : PlA w0 W p N F ⟨[⟨0, 0, 0⟩], [], []⟩ bt (.slice none 0 0) (.slice none 0 0) [] := by
    subst hN hF
    exact ⟨hblk, hT2, World.ownsRow_nil _ _ _ _, World.ownsRow_nil _ _ _ _, rfl, List.nodup_nil, (fun i g h => by simp at h), hsz⟩
  have HN := Lib.hid hN
  have HF := Lib.hid hF
  have hN1 : N ≤ 100 := by omega
  have hN0 : 0 < N := by omega
  clear hT2 hN hF hblk hsz
  go_loopw [4] (fun i wr => ∃ (k : Nat) (vv : Value), k ≤ N ∧ i = .int .i64 k ∧ PlA w0 wr p N F ⟨[⟨0, 0, 0⟩], List.replicate k ⟨0, 0⟩, []⟩ bt vv (.slice none 0 0) [])
    (fun i _ => N - (intOf i).toNat)
  case atStart => exact ⟨0, _, by omega, rfl, hP⟩
  case round =>
    clear hP
    obtain ⟨k, vv, hk, rfl, hP⟩ := hrel
    have hc := hP.cells
    have hlt0 := hP.lt
    by_cases hlt : k < N
    · have hvl : (List.replicate k (⟨0, 0⟩ : Vo)).length = k := List.length_replicate
      have hown := hP.vot
      rw [show ({ l := [⟨0, 0, 0⟩], vs := List.replicate k ⟨0, 0⟩, rows := [] } : Ps).vs.length = k from hvl] at hown
      have hg0 := hP.tree.new.size
      go_wp2_with (at_builtin; go_loud (refine wpList_append_lies _ rfl _ _ _ rfl w0.heap.size 43 i0 _ 2 16 Try.underlying51 hi hz0 hz1 hz2 rfl (by omega) vv k _ rfl (hown.alloc _) ⟨wr.heap.size, 0, none⟩ 1 1 [.int .u64 0, .int .i64 0] rfl rfl (World.news_of_block (cs := #[.int .u64 0, .int .i64 0]) (t := 43) (fr := (0, 0)) (heap_alloc_new wr _)) (by simp [Value.oneCell']) (by omega) ?c1 ?c2 ?c3 (wr.heap.size + 1) (by simp) ?_))
      case c1 => unfold maxLen; omega
      case c2 => omega
      case c3 => first | omega | (simp; omega)
      intro g2 cap2 w2 hown2 hgrow hat hlt2
      have hP2 := hP.addVo (o := .cells #[.int .u64 0, .int .i64 0] 43) (g2 := g2) (cap2 := cap2) (by rw [show ({ l := [⟨0, 0, 0⟩], vs := List.replicate k ⟨0, 0⟩, rows := [] } : Ps).vs.length = k from hvl]; exact hown2) hgrow
      rw [show ({ l := [⟨0, 0, 0⟩], vs := List.replicate k ⟨0, 0⟩, rows := [] } : Ps).vs.length = k from hvl] at hP2
      have hP3 : PlA w0 (w2.setCell ⟨p, 3, none⟩ (.slice (some ⟨g2, 0, none⟩) (k + 1) cap2)) p N F ⟨[⟨0, 0, 0⟩], List.replicate (k + 1) ⟨0, 0⟩, []⟩ bt (.slice (some ⟨g2, 0, none⟩) (k + 1) cap2) (.slice none 0 0) [] := by
        rw [← rep_succ]; exact hP2
      have hpn : (wr.alloc (.cells #[.int .u64 0, .int .i64 0] 43)).heap[p]? = some (.cells #[.pointer (some ⟨bt, 0, none⟩), .int .i64 N, .int .i64 F, vv, .slice none 0 0] 54 (0, 0)) := (heap_alloc_old _ _ hlt0).trans hP.blk
      have hp2 := KT.grown hgrow (own_type (hown.alloc _)) _ _ _ _ hpn rfl
      have x1 := cell_blk hp2 3
      have x2 := frozen_blk hp2 3
      simp only [List.getElem?_toArray, List.getElem?_cons_zero, List.getElem?_cons_succ] at x1
      have HP := Lib.hid hP3
      clear hP2 hP3 hown2 hgrow hat hlt2 hown hvl hp2 hpn
      go_wp2_with fail
      go_roundw
      case rel => exact ⟨k + 1, _, by omega, by go_num, HP.out⟩
      case measure => simp [intOf]; omega
    · obtain rfl : k = N := by omega
      go_upto_region 9 with (fail)
      have hPd := hP.drew
      have hb : w0.heap.size ≤ wr.drew.heap.size := hPd.tree.new.size
      have SK : ∀ wa wb : World, (New w0 wa ∧ wa.cell? ⟨p, 1, none⟩ = some (.int .i64 k) ∧ p < wa.heap.size) → New wa wb → (New w0 wb ∧ wb.cell? ⟨p, 1, none⟩ = some (.int .i64 k) ∧ p < wb.heap.size) :=
        fun wa wb h n => ⟨h.1.then n (fun _ h => h.elim), (n.cell h.2.2 (fun h => h)).trans h.2.1, Nat.lt_of_lt_of_le h.2.2 n.size⟩
      have hmk := mk_bools k hN1
      clear hP hc hlt0
      refine wp_region_held_drew (S := (fun w' => New w0 w' ∧ w'.cell? ⟨p, 1, none⟩ = some (.int .i64 k) ∧ p < w'.heap.size)) (by kernel_rfl) ?_ (fun hHeld => ?_)
      · exact ⟨hPd.tree.new, hPd.cells.2.1, hPd.lt⟩
      generalize World.drew wr = wq at *; have hcq := hPd.cells; have hlq := hPd.lt; have q1 : New wq (wq.alloc (.cells (boolV (List.replicate k false)).toArray 4)) := (New.refl wq).alloc _; have q2 : New wq ((wq.alloc (.cells (boolV (List.replicate k false)).toArray 4)).alloc (.cells #[.slice (some ⟨wq.heap.size, 0, none⟩) k k] 58)) := q1.alloc _; have hS0 := hHeld
      refine wpAnyH_take (i := 0) (oi := ⟨some 33, _, _, _, _, _⟩) (v := ?_) rfl (by kernel_rfl) (by kernel_rfl) (by kernel_rfl) (fun _ _ _ h => h) (Or.inl ⟨by rfl, ?_⟩) (by assumption) ?_
      rotate_left
      · (intro wq hSw; (try dsimp only at hSw); go_simp; try with_reducible rfl)
      try simp only [Act.put, List.setIfInBounds_toArray, List.set_cons_zero, List.set_cons_succ]
      refine wpAnyH_take (i := 1) (oi := ⟨some 34, _, _, _, _, _⟩) (v := ?_) rfl (by kernel_rfl) (by kernel_rfl) (by kernel_rfl) (fun _ _ _ h => h) (Or.inl ⟨by rfl, ?_⟩) (by assumption) ?_
      rotate_left
      · (intro wq hSw; (try dsimp only at hSw); go_simp; try with_reducible rfl)
      try simp only [Act.put, List.setIfInBounds_toArray, List.set_cons_zero, List.set_cons_succ]
      refine wpAnyH_take (i := 2) (oi := ⟨some 35, _, _, _, _, _⟩) (v := ?_) rfl (by kernel_rfl) (by kernel_rfl) (by kernel_rfl) (fun _ _ _ h => h) (Or.inl ⟨by rfl, ?_⟩) (by assumption) ?_
      rotate_left
      · (intro wq hSw; (try dsimp only at hSw); go_simp; try with_reducible rfl)
      try simp only [Act.put, List.setIfInBounds_toArray, List.set_cons_zero, List.set_cons_succ]
      refine wpAnyH_take (i := 3) (oi := ⟨some 36, _, _, _, _, _⟩) (v := ?_) rfl (by kernel_rfl) (by kernel_rfl) (by kernel_rfl) (fun _ _ _ h => h) (Or.inl ⟨by rfl, ?_⟩) (by assumption) ?_
      rotate_left
      · (intro wq hSw; (try dsimp only at hSw); go_simp; try with_reducible rfl)
      try simp only [Act.put, List.setIfInBounds_toArray, List.set_cons_zero, List.set_cons_succ]
      refine wpAnyH_take (i := 5) (oi := ⟨some 38, _, _, _, _, _⟩) (v := ?_) rfl (by kernel_rfl) (by kernel_rfl) (by kernel_rfl) (fun _ _ _ h => h) (Or.inl ⟨by rfl, ?_⟩) (by assumption) ?_
      rotate_left
      · (intro wq hSw; (try dsimp only at hSw); go_simp; try with_reducible rfl)
      try simp only [Act.put, List.setIfInBounds_toArray, List.set_cons_zero, List.set_cons_succ]
      refine wpAnyH_take (i := 6) (oi := ⟨some 39, _, _, _, _, _⟩) (v := ?_) rfl (by kernel_rfl) (by kernel_rfl) (by kernel_rfl) (fun _ _ _ h => h) (Or.inl ⟨by rfl, ?_⟩) (by assumption) ?_
      rotate_left
      · (intro wq hSw; (try dsimp only at hSw); go_simp; try with_reducible rfl)
      try simp only [Act.put, List.setIfInBounds_toArray, List.set_cons_zero, List.set_cons_succ]
      refine wpAnyH_take (i := 7) (oi := ⟨some 40, _, _, _, _, _⟩) (v := ?_) rfl (by kernel_rfl) (by kernel_rfl) (by kernel_rfl) (fun _ _ _ h => h) (Or.inl ⟨by rfl, ?_⟩) (by assumption) ?_
      rotate_left
      · (intro wq hSw; (try dsimp only at hSw); go_simp; try with_reducible rfl)
      try simp only [Act.put, List.setIfInBounds_toArray, List.set_cons_zero, List.set_cons_succ]
      refine wpAnyH_take (i := 8) (oi := ⟨some 41, _, _, _, _, _⟩) (v := ?_) rfl (by kernel_rfl) (by kernel_rfl) (by kernel_rfl) (fun _ _ _ h => h) (Or.inl ⟨by rfl, ?_⟩) (by assumption) ?_
      rotate_left
      · (intro wq hSw; (try dsimp only at hSw); go_simp; try with_reducible rfl)
      try simp only [Act.put, List.setIfInBounds_toArray, List.set_cons_zero, List.set_cons_succ]
      refine wpAnyH_ready (rs := [4, 9]) (by kernel_rfl) (by simp) ?_
      refine AllReadyH.cons (o := ⟨some 37, _, _, _, _, _⟩) rfl (fun K hK => ?_) (AllReadyH.cons (o := ⟨some 42, _, _, _, _, _⟩) rfl (fun K hK => ?_) AllReadyH.nil)
      focus
        go_simp
        refine hK.out _ _ hHeld (fun hHeld => ?_)
        clear hK K
        try simp only [Act.put, List.setIfInBounds_toArray, List.set_cons_zero, List.set_cons_succ]
        refine wpAnyH_ready (rs := [9]) (by kernel_rfl) (by simp) ?_
        refine AllReadyH.cons (o := ⟨some 42, _, _, _, _, _⟩) rfl (fun K hK => ?_) AllReadyH.nil
        go_simp
        refine hK.out _ _ (SK _ _ hS0 q1) (fun hHeld => ?_)
        clear hK K
        try simp only [Act.put, List.setIfInBounds_toArray, List.set_cons_zero, List.set_cons_succ]
        refine wpAnyH_ready (rs := [10]) (by kernel_rfl) (by simp) ?_
        refine AllReadyH.cons (o := ⟨some 43, _, _, _, _, _⟩) rfl (fun K hK => ?_) AllReadyH.nil
        go_simp
        refine hK.out _ _ (SK _ _ hS0 q2) (fun hHeld => ?_)
        clear hK K
        try simp only [Act.put, List.setIfInBounds_toArray, List.set_cons_zero, List.set_cons_succ]
        refine wpAnyH_ready (rs := [11]) (by kernel_rfl) (by simp) ?_
        refine AllReadyH.cons (o := ⟨some 44, _, _, _, _, _⟩) rfl (fun K hK => ?_) AllReadyH.nil
        refine step_append_lies _ (by rfl) _ _ _ (by rfl) w0.heap.size 58 j0 _ 1 24 Try.underlying52 hj hy0 hy1 hy2 rfl (by omega) _ _ [] (by rfl) (World.ownsRow_nil _ _ _ _) ⟨wq.heap.size + 1, 0, none⟩ 1 1 [.slice (some ⟨wq.heap.size, 0, none⟩) k k] (by rfl) (by rfl) (World.news_of_block (cs := #[.slice (some ⟨wq.heap.size, 0, none⟩) k k]) (t := 58) (fr := (0, 0)) (blk2_1 wq _ _)) (by simp [Value.oneCell']) (by omega) (by unfold maxLen; omega) (by omega) (by simp; omega) (wq.heap.size + 2) (by simp) ?_; intro g2 cap2 w2 hown2 hgrow hat hlt2; have hG := hPd.addRow hown2 hgrow; have hpn := q2.kept hPd.blk (fun h => h); have hp2 := KT.grown hgrow (fun _ h => by simp [Value.ownBlock] at h) _ _ _ _ hpn (show (fun t => t == 58) _ = false from rfl); have x1 := cell_blk hp2 4; have x2 := frozen_blk hp2 4; simp only [List.getElem?_toArray, List.getElem?_cons_zero, List.getElem?_cons_succ] at x1; have nG := hS0.1.then q2 (fun _ h => h.elim); have nG2 := nG.grown hgrow (fun _ h => by simp [Value.ownBlock] at h)
        refine hK.out _ _ (⟨nG2, by rw [cell_blk hp2]; rfl, (Array.getElem?_eq_some_iff.1 hp2).1⟩) (fun hHeld => ?_)
        clear hK K
        try simp only [Act.put, List.setIfInBounds_toArray, List.set_cons_zero, List.set_cons_succ]
        refine wpAnyH_take (i := 12) (oi := ⟨some 45, _, _, _, _, _⟩) (v := ?_) rfl (by kernel_rfl) (by kernel_rfl) (by kernel_rfl) (fun _ _ _ h => h) (Or.inl ⟨by rfl, ?_⟩) (by assumption) ?_
        rotate_left
        · (intro wq hSw; (try dsimp only at hSw); go_simp; try with_reducible rfl)
        try simp only [Act.put, List.setIfInBounds_toArray, List.set_cons_zero, List.set_cons_succ]
        refine wpAnyH_take (i := 13) (oi := ⟨some 46, _, _, _, _, _⟩) (v := ?_) rfl (by kernel_rfl) (by kernel_rfl) (by kernel_rfl) (fun _ _ _ h => h) (Or.inl ⟨by rfl, ?_⟩) (by assumption) ?_
        rotate_left
        · (intro wq hSw; (try dsimp only at hSw); go_simp; try with_reducible rfl)
        try simp only [Act.put, List.setIfInBounds_toArray, List.set_cons_zero, List.set_cons_succ]
        refine wpAnyH_ready (rs := [14]) (by kernel_rfl) (by simp) ?_
        refine AllReadyH.cons (o := ⟨none, _, _, _, _, _⟩) rfl (fun K hK => ?_) AllReadyH.nil
        go_simp
        refine hK.out _ _ (⟨hG.tree.new, hG.cells.2.1, hG.lt⟩) (fun hHeld => ?_)
        clear hK K
        try simp only [Act.put, List.setIfInBounds_toArray, List.set_cons_zero, List.set_cons_succ]
        refine wpAnyH_done (by kernel_rfl) ?_ _
      rotate_left 1
      focus
        go_simp
        refine hK.out _ _ (SK _ _ hS0 q1) (fun hHeld => ?_)
        clear hK K
        try simp only [Act.put, List.setIfInBounds_toArray, List.set_cons_zero, List.set_cons_succ]
        refine wpAnyH_ready (rs := [4, 10]) (by kernel_rfl) (by simp) ?_
        refine AllReadyH.cons (o := ⟨some 37, _, _, _, _, _⟩) rfl (fun K hK => ?_) (AllReadyH.cons (o := ⟨some 43, _, _, _, _, _⟩) rfl (fun K hK => ?_) AllReadyH.nil)
        focus
          go_simp
          refine hK.out _ _ hHeld (fun hHeld => ?_)
          clear hK K
          try simp only [Act.put, List.setIfInBounds_toArray, List.set_cons_zero, List.set_cons_succ]
          refine wpAnyH_ready (rs := [10]) (by kernel_rfl) (by simp) ?_
          refine AllReadyH.cons (o := ⟨some 43, _, _, _, _, _⟩) rfl (fun K hK => ?_) AllReadyH.nil
          go_simp
          refine hK.out _ _ (SK _ _ hS0 q2) (fun hHeld => ?_)
          clear hK K
          try simp only [Act.put, List.setIfInBounds_toArray, List.set_cons_zero, List.set_cons_succ]
          refine wpAnyH_ready (rs := [11]) (by kernel_rfl) (by simp) ?_
          refine AllReadyH.cons (o := ⟨some 44, _, _, _, _, _⟩) rfl (fun K hK => ?_) AllReadyH.nil
          refine step_append_lies _ (by rfl) _ _ _ (by rfl) w0.heap.size 58 j0 _ 1 24 Try.underlying52 hj hy0 hy1 hy2 rfl (by omega) _ _ [] (by rfl) (World.ownsRow_nil _ _ _ _) ⟨wq.heap.size + 1, 0, none⟩ 1 1 [.slice (some ⟨wq.heap.size, 0, none⟩) k k] (by rfl) (by rfl) (World.news_of_block (cs := #[.slice (some ⟨wq.heap.size, 0, none⟩) k k]) (t := 58) (fr := (0, 0)) (blk2_1 wq _ _)) (by simp [Value.oneCell']) (by omega) (by unfold maxLen; omega) (by omega) (by simp; omega) (wq.heap.size + 2) (by simp) ?_; intro g2 cap2 w2 hown2 hgrow hat hlt2; have hG := hPd.addRow hown2 hgrow; have hpn := q2.kept hPd.blk (fun h => h); have hp2 := KT.grown hgrow (fun _ h => by simp [Value.ownBlock] at h) _ _ _ _ hpn (show (fun t => t == 58) _ = false from rfl); have x1 := cell_blk hp2 4; have x2 := frozen_blk hp2 4; simp only [List.getElem?_toArray, List.getElem?_cons_zero, List.getElem?_cons_succ] at x1; have nG := hS0.1.then q2 (fun _ h => h.elim); have nG2 := nG.grown hgrow (fun _ h => by simp [Value.ownBlock] at h)
          refine hK.out _ _ (⟨nG2, by rw [cell_blk hp2]; rfl, (Array.getElem?_eq_some_iff.1 hp2).1⟩) (fun hHeld => ?_)
          clear hK K
          try simp only [Act.put, List.setIfInBounds_toArray, List.set_cons_zero, List.set_cons_succ]
          refine wpAnyH_take (i := 12) (oi := ⟨some 45, _, _, _, _, _⟩) (v := ?_) rfl (by kernel_rfl) (by kernel_rfl) (by kernel_rfl) (fun _ _ _ h => h) (Or.inl ⟨by rfl, ?_⟩) (by assumption) ?_
          rotate_left
          · (intro wq hSw; (try dsimp only at hSw); go_simp; try with_reducible rfl)
          try simp only [Act.put, List.setIfInBounds_toArray, List.set_cons_zero, List.set_cons_succ]
          refine wpAnyH_take (i := 13) (oi := ⟨some 46, _, _, _, _, _⟩) (v := ?_) rfl (by kernel_rfl) (by kernel_rfl) (by kernel_rfl) (fun _ _ _ h => h) (Or.inl ⟨by rfl, ?_⟩) (by assumption) ?_
          rotate_left
          · (intro wq hSw; (try dsimp only at hSw); go_simp; try with_reducible rfl)
          try simp only [Act.put, List.setIfInBounds_toArray, List.set_cons_zero, List.set_cons_succ]
          refine wpAnyH_ready (rs := [14]) (by kernel_rfl) (by simp) ?_
          refine AllReadyH.cons (o := ⟨none, _, _, _, _, _⟩) rfl (fun K hK => ?_) AllReadyH.nil
          go_simp
          refine hK.out _ _ (⟨hG.tree.new, hG.cells.2.1, hG.lt⟩) (fun hHeld => ?_)
          clear hK K
          try simp only [Act.put, List.setIfInBounds_toArray, List.set_cons_zero, List.set_cons_succ]
          refine wpAnyH_done (by kernel_rfl) ?_ _
        rotate_left 1
        focus
          go_simp
          refine hK.out _ _ (SK _ _ hS0 q2) (fun hHeld => ?_)
          clear hK K
          try simp only [Act.put, List.setIfInBounds_toArray, List.set_cons_zero, List.set_cons_succ]
          refine wpAnyH_ready (rs := [4]) (by kernel_rfl) (by simp) ?_
          refine AllReadyH.cons (o := ⟨some 37, _, _, _, _, _⟩) rfl (fun K hK => ?_) AllReadyH.nil
          go_simp
          refine hK.out _ _ hHeld (fun hHeld => ?_)
          clear hK K
          try simp only [Act.put, List.setIfInBounds_toArray, List.set_cons_zero, List.set_cons_succ]
          refine wpAnyH_ready (rs := [11]) (by kernel_rfl) (by simp) ?_
          refine AllReadyH.cons (o := ⟨some 44, _, _, _, _, _⟩) rfl (fun K hK => ?_) AllReadyH.nil
          refine step_append_lies _ (by rfl) _ _ _ (by rfl) w0.heap.size 58 j0 _ 1 24 Try.underlying52 hj hy0 hy1 hy2 rfl (by omega) _ _ [] (by rfl) (World.ownsRow_nil _ _ _ _) ⟨wq.heap.size + 1, 0, none⟩ 1 1 [.slice (some ⟨wq.heap.size, 0, none⟩) k k] (by rfl) (by rfl) (World.news_of_block (cs := #[.slice (some ⟨wq.heap.size, 0, none⟩) k k]) (t := 58) (fr := (0, 0)) (blk2_1 wq _ _)) (by simp [Value.oneCell']) (by omega) (by unfold maxLen; omega) (by omega) (by simp; omega) (wq.heap.size + 2) (by simp) ?_; intro g2 cap2 w2 hown2 hgrow hat hlt2; have hG := hPd.addRow hown2 hgrow; have hpn := q2.kept hPd.blk (fun h => h); have hp2 := KT.grown hgrow (fun _ h => by simp [Value.ownBlock] at h) _ _ _ _ hpn (show (fun t => t == 58) _ = false from rfl); have x1 := cell_blk hp2 4; have x2 := frozen_blk hp2 4; simp only [List.getElem?_toArray, List.getElem?_cons_zero, List.getElem?_cons_succ] at x1; have nG := hS0.1.then q2 (fun _ h => h.elim); have nG2 := nG.grown hgrow (fun _ h => by simp [Value.ownBlock] at h)
          refine hK.out _ _ (⟨nG2, by rw [cell_blk hp2]; rfl, (Array.getElem?_eq_some_iff.1 hp2).1⟩) (fun hHeld => ?_)
          clear hK K
          try simp only [Act.put, List.setIfInBounds_toArray, List.set_cons_zero, List.set_cons_succ]
          refine wpAnyH_take (i := 12) (oi := ⟨some 45, _, _, _, _, _⟩) (v := ?_) rfl (by kernel_rfl) (by kernel_rfl) (by kernel_rfl) (fun _ _ _ h => h) (Or.inl ⟨by rfl, ?_⟩) (by assumption) ?_
          rotate_left
          · (intro wq hSw; (try dsimp only at hSw); go_simp; try with_reducible rfl)
          try simp only [Act.put, List.setIfInBounds_toArray, List.set_cons_zero, List.set_cons_succ]
          refine wpAnyH_take (i := 13) (oi := ⟨some 46, _, _, _, _, _⟩) (v := ?_) rfl (by kernel_rfl) (by kernel_rfl) (by kernel_rfl) (fun _ _ _ h => h) (Or.inl ⟨by rfl, ?_⟩) (by assumption) ?_
          rotate_left
          · (intro wq hSw; (try dsimp only at hSw); go_simp; try with_reducible rfl)
          try simp only [Act.put, List.setIfInBounds_toArray, List.set_cons_zero, List.set_cons_succ]
          refine wpAnyH_ready (rs := [14]) (by kernel_rfl) (by simp) ?_
          refine AllReadyH.cons (o := ⟨none, _, _, _, _, _⟩) rfl (fun K hK => ?_) AllReadyH.nil
          go_simp
          refine hK.out _ _ (⟨hG.tree.new, hG.cells.2.1, hG.lt⟩) (fun hHeld => ?_)
          clear hK K
          try simp only [Act.put, List.setIfInBounds_toArray, List.set_cons_zero, List.set_cons_succ]
          refine wpAnyH_done (by kernel_rfl) ?_ _
        rotate_left 1
      rotate_left 2
      all_goals (
        clear hPd hcq q1 q2 hS0 hown2 hgrow hat hpn hp2 x1 x2 nG nG2 hmk SK
        go_wp2_with fail
        go_ret
        refine ⟨p, rfl, ?_⟩
        have e1 := HN.out
        have e2 := HF.out
        subst e1 e2
        exact ⟨_, _, _, _, hG⟩)
end Go.Proofs.Ytefbdikoichaeaa
