/-
  WALKS: voussoirlaw17.Play.put.
-/
import Derived.Test.YtclldibadmnppaaLpC
import Derived.Deep.AppendLies
import Derived.Deep.RegionLaw
namespace Go.Proofs.Ytclldibadmnppaa
open Go.RowKit
theorem info_link0 : (Try.prog.info? 36).map (fun i => (i.zero, i.size, i.bytes)) = some (some (.agg #[.int .i64 0, .int .u64 0, .int .u64 0, .int .u64 0]), 4, 32) := by kernel_rfl
theorem info_links0 : (Try.prog.info? 25).map (fun i => (i.zero, i.size, i.bytes)) = some (some (.slice none 0 0), 1, 24) := by kernel_rfl
theorem info_p {t : TypeId} {z : Value} {n b : Nat} (h : (Try.prog.info? t).map (fun i => (i.zero, i.size, i.bytes)) = some (some z, n, b)) : ∃ i, Try.prog.info? t = some i ∧ i.zero = some z ∧ i.size = n ∧ i.bytes = b := by
  cases e : Try.prog.info? t with
  | none => rw [e] at h; cases h
  | some i => rw [e] at h; simp at h; exact ⟨i, rfl, h.1, h.2.1, h.2.2⟩
theorem news_at (w : World) (l : Ln) (T : TypeId) : ∀ (j : Nat) (u : Value), (lnV l)[j]? = some u → (w.alloc (.cells (lnV l).toArray T)).cell? ((⟨w.heap.size, 0, none⟩ : Addr).add j) = some u := by
  intro j u hj
  rw [Addr.add_lit, cell_blk (heap_alloc_new w _)]
  simpa using hj
theorem lnV_one (l : Ln) : ∀ u ∈ lnV l, u.oneCell' = true := by
  intro u hu
  simp only [lnV, List.mem_cons, List.not_mem_nil, or_false] at hu
  rcases hu with rfl | rfl | rfl | rfl <;> rfl
/-- between the two appends of put: the ends have grown, the histories have not -/
structure Mid (w0 w : World) (P : Nat) (c : Nat) (l : Ln) (s : His) (Q : Nat) : Prop where
  pla : ∃ E V B, Pla w0 w P E V B (upd (ends s) c (ends s c ++ [l])) s
  lk : lk w Q l
theorem Pla.grow {w0 W w' : World} {P : Nat} {E V : Nat → Value} {B : Nat → List Value} {x : Nat → List Ln} {s : His} (h : Pla w0 W P E V B x s) {e : TypeId} {size n : Nat} {v : Value} {xs : List Value} (ho : W.ownsRow w0.heap.size e size v n xs) (hg : W.grownBy w' v.ownBlock) : New w0 w' :=
  h.new.grown hg (fun j hj => .inr (World.ownsRow.lt ho j hj).1)
theorem mid_of {w0 W w' : World} {P Q c L ecap g cap : Nat} {E V : Nat → Value} {B : Nat → List Value} {s : His} {l : Ln} {ea : Option Addr} (hc : c < 2) (h1 : Pla w0 W P E V B (ends s) s) (hEe : E c = .slice ea L ecap) (hL : (ends s c).length = L) (q1 : lk W Q l) (hQ : ∀ k, (E c).ownBlock = some k → k < Q)
    (hown : w'.ownsRow w0.heap.size 36 4 (.slice (some ⟨g, 0, none⟩) (L + 1) cap) (L + 1) (flatL (ends s c) ++ lnV l)) (hg : (W.drew.alloc (.cells (lnV l).toArray 36)).grownBy w' (Value.slice ea L ecap).ownBlock)
    (hb : (Value.slice ea L ecap).ownBlock = some g ∨ g = (W.drew.alloc (.cells (lnV l).toArray 36)).heap.size) (hlt : g < w'.heap.size) :
    (w'.cell? ⟨P, c, none⟩ = some (.slice ea L ecap) ∧ w'.frozen? ⟨P, c, none⟩ = false) ∧ Mid w0 (w'.setCell ⟨P, c, none⟩ (.slice (some ⟨g, 0, none⟩) (L + 1) cap)) P c l s Q := by
  rw [← hEe] at hg hb
  have k1 : New W (W.drew.alloc (.cells (lnV l).toArray 36)) := (Keeps.refl (fun _ => False) W).drew.alloc _
  have h2 := h1.keep k1
  generalize W.drew.alloc (.cells (lnV l).toArray 36) = W1 at *
  have K : Keeps (fun k => (E c).ownBlock = some k) W1 w' := (Keeps.refl _ W1).grown hg (fun k hk => .inl hk)
  have pb : plB w' P E V := h2.blk.keepS K (plB.far h2.blk (h2.bdy.ends c hc) (by decide))
  have b3 := h2.bdy.addEnd hc l (by rw [hL]; exact hown) hg (by
    rcases hb with hb | hb
    · exact .inl hb.symm
    · exact .inr ⟨by rw [← hb]; rfl, by rw [← hb]; exact hlt⟩)
  have nw := h2.grow (h2.bdy.ends c hc) hg
  have pcl := pb.cell hc
  rw [hEe] at pcl
  refine ⟨⟨pcl.1, pcl.2.2.1⟩, ⟨upd E c _, V, B, pb.setE hc _, h1.ge, b3.stored pb (by decide) (by decide) ((Keeps.refl (fun k => k = P) w').set1 _ _), Keeps.set nw h1.ge _ _⟩, ?_⟩
  have q2 : lk w' Q l := K.kept (q1.keep k1) (fun e => by have := hQ Q e; omega)
  refine (Below.heap_setCell w' ⟨P, c, none⟩ _ Q ?_).trans q2
  intro e
  have p := h2.blk
  have q3 := q1.keep k1
  rw [show Q = P from e] at q3
  unfold plB at p
  unfold lk at q3
  rw [p] at q3
  simp at q3
theorem slot_news (w : World) (u : Value) (T : TypeId) : ∀ (j : Nat) (x : Value), [u][j]? = some x → (w.alloc (.cells #[u] T)).cell? ((⟨w.heap.size, 0, none⟩ : Addr).add j) = some x := by
  intro j x hj
  rw [Addr.add_lit, cell_blk (heap_alloc_new w _)]
  simpa using hj
theorem fin_of {w0 W w' : World} {P c L vcap g cap : Nat} {E V : Nat → Value} {B : Nat → List Value} {s : His} {l : Ln} {va : Option Addr} (hc : c < 2) (h1 : Pla w0 W P E V B (upd (ends s) c (ends s c ++ [l])) s) (hVe : V c = .slice va L vcap) (hL : (s c).length = L)
    (hown : w'.ownsRow w0.heap.size 25 1 (.slice (some ⟨g, 0, none⟩) (L + 1) cap) (L + 1) (B c ++ [.slice (some ⟨W.heap.size, 0, none⟩) 1 1]))
    (hg : ((W.drew.alloc (.cells (lnV l).toArray 36)).alloc (.cells #[.slice (some ⟨W.heap.size, 0, none⟩) 1 1] 25)).grownBy w' (Value.slice va L vcap).ownBlock)
    (hb : (Value.slice va L vcap).ownBlock = some g ∨ g = ((W.drew.alloc (.cells (lnV l).toArray 36)).alloc (.cells #[.slice (some ⟨W.heap.size, 0, none⟩) 1 1] 25)).heap.size) (hlt : g < w'.heap.size) :
    (w'.cell? ⟨P, 2 + c, none⟩ = some (.slice va L vcap) ∧ w'.frozen? ⟨P, 2 + c, none⟩ = false) ∧ Pl w0 (w'.setCell ⟨P, 2 + c, none⟩ (.slice (some ⟨g, 0, none⟩) (L + 1) cap)) P (newH s c l) := by
  rw [← hVe] at hg hb
  have k1 : New W (W.drew.alloc (.cells (lnV l).toArray 36)) := (Keeps.refl (fun _ => False) W).drew.alloc _
  have k2 : New W ((W.drew.alloc (.cells (lnV l).toArray 36)).alloc (.cells #[.slice (some ⟨W.heap.size, 0, none⟩) 1 1] 25)) := k1.alloc _
  have hu : HV w0 ((W.drew.alloc (.cells (lnV l).toArray 36)).alloc (.cells #[.slice (some ⟨W.heap.size, 0, none⟩) 1 1] 25)) (.slice (some ⟨W.heap.size, 0, none⟩) 1 1) [l] := by
    refine ⟨World.ownsRow.alloc ?_ _, by simp, fun _ => ⟨_, rfl⟩⟩
    have := World.ownsRow_lit (base := w0.heap.size) (e := 36) (size := 4) W.drew (lnV l).toArray 1 h1.new.size (by decide) rfl
    simpa [flatL] using this
  have hu2 : ∀ d, d < 2 → Apart (.slice (some ⟨W.heap.size, 0, none⟩) 1 1) (E d) := by
    intro d hd k e1 e2
    have := (World.ownsRow.lt (h1.bdy.ends d hd) k e2).2
    simp [Value.ownBlock] at e1
    omega
  have h2 := h1.keep k2
  generalize (W.drew.alloc (.cells (lnV l).toArray 36)).alloc (.cells #[.slice (some ⟨W.heap.size, 0, none⟩) 1 1] 25) = W1 at *
  have K : Keeps (fun k => (V c).ownBlock = some k) W1 w' := (Keeps.refl _ W1).grown hg (fun k hk => .inl hk)
  have pb : plB w' P E V := h2.blk.keepS K (plB.far h2.blk (h2.bdy.was c hc) (by decide))
  have b3 := h2.bdy.addWas hc l hu hu2 (by rw [hL]; exact hown) hg (by
    rcases hb with hb | hb
    · exact .inl hb.symm
    · exact .inr ⟨by rw [← hb]; rfl, by rw [← hb]; exact hlt⟩)
  have nw := h2.grow (h2.bdy.was c hc) hg
  have pcl := pb.cell hc
  rw [hVe] at pcl
  refine ⟨⟨pcl.2.1, pcl.2.2.2⟩, E, upd V c _, upd B c (B c ++ [.slice (some ⟨W.heap.size, 0, none⟩) 1 1]), ⟨pb.setV hc _, h1.ge, ?_, Keeps.set nw h1.ge _ _⟩⟩
  rw [← ends_new]
  exact b3.stored pb (by decide) (by decide) ((Keeps.refl (fun k => k = P) w').set1 _ _)
set_option maxHeartbeats 4000000 in
set_option maxRecDepth 100000 in
theorem put_new (w0 : World) (P : Nat) (s : His) (c n : Nat) (l : Ln) (hc : c < 2) (hn : n = (s c).length) (hls : (s c).length ≤ 1000) (w : World) (h : Pl w0 w P s) :
    Calls Try.prog 55 #[.pointer (some ⟨P, 0, none⟩), .int .i64 (c : Nat), .int .i64 (n : Nat), .agg #[.int .i64 (l.st : Nat), .int .u64 (l.cl : Nat), .int .u64 (l.pe : Nat), .int .u64 (l.pc : Nat)]] w fun e w' => e = .returned (.tuple #[]) ∧ Pl w0 w' P (newH s c l) := by
  have n1 : New w (w.alloc (.cells #[.int .i64 (l.st : Nat), .int .u64 (l.cl : Nat), .int .u64 (l.pe : Nat), .int .u64 (l.pc : Nat)] 36)) := (Keeps.refl _ w).alloc _
  have q1 : lk (w.alloc (.cells #[.int .i64 (l.st : Nat), .int .u64 (l.cl : Nat), .int .u64 (l.pe : Nat), .int .u64 (l.pc : Nat)] 36)) w.heap.size l := heap_alloc_new w _
  obtain ⟨E, V, B, h0⟩ := h
  have hQ : ∀ k, (E c).ownBlock = some k → k < w.heap.size := fun k hk => (World.ownsRow.lt (h0.bdy.ends c hc) k hk).2
  have h1 := h0.keep n1
  clear h0
  obtain ⟨i0, hi, hz0, hz1, hz2⟩ := info_p info_link0
  obtain ⟨j0, hj, hy0, hy1, hy2⟩ := info_p info_links0
  have hL := ends_len s c
  obtain ⟨L, hLL⟩ : ∃ L, Hid ((s c).length = L) := ⟨_, rfl⟩
  rw [hLL.out] at hn hls hL
  subst hn
  have hE := h1.bdy.ends c hc
  obtain ⟨ea, ecap, hEe⟩ := own_form hE
  have pE := (h1.blk.cell hc).1
  rw [hEe, hL] at pE
  rw [hEe] at hE
  have c0 : (0 : Int) ≤ (c : Int) := Int.natCast_nonneg _
  have c2 : (c : Int) < 2 := by omega
  have nL : (n : Int) ≤ (n : Int) := by omega
  go_enter Try.func55, Try.ntmps55
  go_upto_region 1 with (fail)
  revert n1 q1 hQ h1 hE pE
  generalize World.alloc w _ = W
  have Qlt : w.heap.size ≤ w.heap.size := Nat.le_refl _
  revert Qlt
  generalize w.heap.size = Q
  intro Qlt n1 q1 hQ h1 hE pE
  go_upto_region 2 with (fail)
  go_cut [7] from 17 to 31 (fun v wx => v = .pointer (some ⟨Q, 0, none⟩) ∧ Mid w0 wx P c l s Q)
  case first =>
    have cq := q1.cells
    have Plt : P < W.heap.size := (Array.getElem?_eq_some_iff.1 h1.blk).1
    have Qlt2 : Q < W.heap.size := (Array.getElem?_eq_some_iff.1 q1).1
    go_region_law (refine step_append_lies _ rfl (.tmp 24) (.tmp 26) 25 rfl w0.heap.size 36 i0 _ 4 32 Try.underlying25 hi hz0 hz1 hz2 rfl (by omega) (.slice ea n ecap) n (flatL (ends s c)) (by simp [Act.eval]) (World.ownsRow.alloc (w := W.drew) (by rw [← hL]; exact hE) _) ⟨W.heap.size, 0, none⟩ 1 1 (lnV l) (by simp [Act.eval]) rfl (news_at W.drew l 36) (lnV_one l) (by omega) (by unfold maxLen; omega) (by omega) (Nat.le_trans h1.new.size (by simp)) _ rfl ?_; intro g cap w' hown hg hb hlt; obtain ⟨⟨pa, pf⟩, MM⟩ := mid_of hc h1 (hL ▸ hEe) hL q1 hQ hown hg hb hlt)
    all_goals (go_wp2_with fail; go_meet; case rel => exact ⟨rfl, MM⟩)
  case rest =>
    clear h1 hE pE q1 n1 hQ hEe
    obtain ⟨rfl, ⟨E3, V3, B3, h3⟩, q3⟩ := hcut
    have hV := h3.bdy.was c hc
    obtain ⟨va, vcap, hVe⟩ := own_form hV
    have pV := (h3.blk.cell hc).2.1
    rw [hVe, hLL.out] at pV
    rw [hVe] at hV
    have cq := q3.cells
    have Plt : P < wc.heap.size := (Array.getElem?_eq_some_iff.1 h3.blk).1
    have Qlt2 : Q < wc.heap.size := (Array.getElem?_eq_some_iff.1 q3).1
    go_upto_region 3 with (fail)
    go_region_law (refine step_append_lies _ rfl (.tmp 38) (.tmp 41) 27 rfl w0.heap.size 25 j0 _ 1 24 Try.underlying27 hj hy0 hy1 hy2 rfl (by omega) (.slice va n vcap) n (B3 c) (by simp [Act.eval]) (World.ownsRow.alloc (World.ownsRow.alloc (w := wc.drew) (by rw [← hLL.out]; exact hV) _) _) ⟨wc.heap.size + 1, 0, none⟩ 1 1 [.slice (some ⟨wc.heap.size, 0, none⟩) 1 1] (by simp [Act.eval]) rfl (by first | exact slot_news (wc.drew.alloc (.cells (lnV l).toArray 36)) _ _ | (have hss := slot_news (wc.drew.alloc (.cells (lnV l).toArray 36)) (.slice (some ⟨wc.heap.size, 0, none⟩) 1 1) 25; simp only [World.size_alloc] at hss; exact hss)) (by intro u hu; rw [List.mem_singleton] at hu; subst hu; rfl) (by omega) (by unfold maxLen; omega) (by omega) (Nat.le_trans h3.new.size (by simp; omega)) _ rfl ?_; intro g cap w' hown hg hb hlt; obtain ⟨⟨pa, pf⟩, MM⟩ := fin_of hc h3 (hLL.out ▸ hVe) hLL.out hown hg hb hlt)
    all_goals (go_wp2_with fail)
    all_goals (exact bodyPost_ret (v := .tuple #[]) (by simp [results, Try.results55, go_sem]) rfl ⟨rfl, MM⟩)
end Go.Proofs.Ytclldibadmnppaa
