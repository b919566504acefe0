/-
  VOTE: what does turns in a Play: a block more, a vote, a voter.
-/
import Derived.Test.YtefbdikoichaeaaVtP3
namespace Go.Proofs.Ytefbdikoichaeaa
open Go.RowKit

def treeT (t : TypeId) : Bool := t == 64 || t == 61
theorem addT2 {w0 w : World} {b : Nat} {l : List Bl} (h : TrN w0 w b l) (p v : Nat) (hp : p < l.length) (hv : vw l p < v) (hu : U64 v) (hl : l.length < 256) :
    Calls Try.prog 15 #[.pointer (some ⟨b, 0, none⟩), .int .i64 p, .int .u64 v] w fun e w' => e = .returned (.tuple #[.int .i64 l.length, .int .i64 0]) ∧ TrN w0 w' b (addB l p v) ∧ KT treeT w w' := by
  obtain ⟨h1, h2, h3, g, cap, h4, h5⟩ := h
  refine (add_ok b g cap l p v w h1 h4 hp hv hl).mono ?_
  rintro e w' ⟨he, g', cap', ht, k, hg⟩
  refine ⟨he, ⟨h1.add hp hv hu hl, h2.then k ?_, h3, g', cap', ht, ?_⟩, KT.of_keeps k ?_⟩
  · rintro j (rfl | rfl)
    · exact .inr h3
    · exact .inr h5
  · rcases hg with rfl | hg
    · exact h5
    · exact Nat.le_trans h2.size hg
  · rintro j c T f (rfl | rfl) hj
    · have := hj.symm.trans h4.blk
      simp at this
      rw [this.2.1]; rfl
    · rcases h4.own.2 with ⟨e, _⟩ | ⟨g2, cap2, cur, e, _, hh, _⟩
      · cases e
      · cases e
        have := hj.symm.trans hh
        simp at this
        rw [this.2.1]; rfl
/-- .. with another tree -/
theorem PlA.setTree {w0 w w' : World} {p n f : Nat} {s : Ps} {bt : Nat} {vv vo : Value} {gs : List Nat} (h : PlA w0 w p n f s bt vv vo gs) (k : KT treeT w w') {l : List Bl} (ht : TrN w0 w' bt l) :
    PlA w0 w' p n f ⟨l, s.vs, s.rows⟩ bt vv vo gs :=
  ⟨k _ _ _ _ h.blk rfl, ht, k.owns h.vot rfl, k.owns h.rws rfl, h.len, h.nod, fun i g hg => ⟨(h.row i g hg).1, k _ _ _ _ (h.row i g hg).2 rfl⟩, h.ge⟩

theorem boolV_set (r : List Bool) (i : Nat) : ((boolV r).toArray.setIfInBounds i (.bool true)) = (boolV (r.set i true)).toArray := by
  simp [boolV, List.map_set]
/-- a vote -/
theorem PlA.setVote {w0 w : World} {p n f : Nat} {s : Ps} {bt : Nat} {vv vo : Value} {gs : List Nat} (h : PlA w0 w p n f s bt vv vo gs) {b g i : Nat} (hb : b < s.rows.length) (hg : gs[b]? = some g) :
    PlA w0 (w.setCell ⟨g, i, none⟩ (.bool true)) p n f ⟨s.l, s.vs, s.rows.set b ((Go.Proofs.Ytefbdikoichaeaa.row s.rows b).set i true)⟩ bt vv vo gs := by
  obtain ⟨hge, hgb⟩ := h.row b g hg
  have k := KT.set hgb i (.bool true)
  have hn : New w0 (w.setCell ⟨g, i, none⟩ (.bool true)) := h.tree.new.set hge i _
  refine ⟨k _ _ _ _ h.blk rfl, k.tr h.tree hn rfl rfl, k.owns h.vot rfl, ?_, ?_, h.nod, ?_, h.ge⟩
  · show World.ownsRow _ _ _ _ _ (s.rows.set b _).length _
    rw [List.length_set]; exact k.owns h.rws rfl
  · show gs.length = (s.rows.set b _).length
    rw [List.length_set]; exact h.len
  · intro j g' hj
    show w0.heap.size ≤ g' ∧ (w.setCell _ _).heap[g']? = some (.cells (boolV (Go.Proofs.Ytefbdikoichaeaa.row (s.rows.set b _) j)).toArray 4 (0, 0))
    rw [row_set _ _ _ hb]
    by_cases e : j = b
    · subst e
      rw [hg] at hj
      obtain rfl : g = g' := by injection hj
      rw [if_pos rfl, heap_setCell_blk hgb, boolV_set]
      exact ⟨hge, rfl⟩
    · rw [if_neg e]
      have hne : g' ≠ g := by
        rintro rfl
        have h2 := (List.getElem?_eq_some_iff.1 hj).1
        exact e ((List.getElem?_inj h2 h.nod).1 (hj.trans hg.symm))
      exact ⟨(h.row j g' hj).1, (Below.heap_setCell w ⟨g, i, none⟩ _ g' hne).trans (h.row j g' hj).2⟩

theorem votV_set (l : List Vo) (x : Vo) : ∀ i, i < l.length → ((votV l).set (i * 2) (.int .u64 x.voted)).set (i * 2 + 1) (.int .i64 x.lock) = votV (l.set i x) := by
  induction l with
  | nil => intro i h; simp at h
  | cons a l ih =>
    intro i h
    rw [show votV (a :: l) = (.int .u64 a.voted) :: (.int .i64 a.lock) :: votV l from rfl]
    rcases i with _ | i
    · rfl
    · have := ih i (by simpa using h)
      rw [show (i + 1) * 2 = i * 2 + 1 + 1 by omega]
      simp only [List.set_cons_succ]
      rw [this]
      rfl
/-- a voter turned -/
theorem PlA.setVoter {w0 w : World} {p n f : Nat} {s : Ps} {bt bv cv : Nat} {vo : Value} {gs : List Nat} (h : PlA w0 w p n f s bt (.slice (some ⟨bv, 0, none⟩) s.vs.length cv) vo gs) {i : Nat} (hi : i < s.vs.length) (x : Vo) :
    PlA w0 ((w.setCell ⟨bv, i * 2, none⟩ (.int .u64 x.voted)).setCell ⟨bv, i * 2 + 1, none⟩ (.int .i64 x.lock)) p n f ⟨s.l, s.vs.set i x, s.rows⟩ bt (.slice (some ⟨bv, 0, none⟩) s.vs.length cv) vo gs := by
  obtain ⟨hlen, hv⟩ := h.vot
  rcases hv with ⟨e, _⟩ | ⟨g, cap, cur, e, hge, hh, hnc, hcm, hcs, htk⟩
  · cases e
  cases e
  have k1 := KT.set hh (i * 2) (.int .u64 x.voted)
  have hh1 := heap_setCell_blk hh (i * 2) (.int .u64 x.voted)
  have k2 := KT.set hh1 (i * 2 + 1) (.int .i64 x.lock)
  have hh2 := heap_setCell_blk hh1 (i * 2 + 1) (.int .i64 x.lock)
  have k := k1.trans k2
  have hn : New w0 ((w.setCell ⟨bv, i * 2, none⟩ (.int .u64 x.voted)).setCell ⟨bv, i * 2 + 1, none⟩ (.int .i64 x.lock)) := (h.tree.new.set hge _ _).set hge _ _
  refine ⟨k _ _ _ _ h.blk rfl, k.tr h.tree hn rfl rfl, ?_, k.owns h.rws rfl, h.len, h.nod, fun j g hj => ⟨(h.row j g hj).1, k _ _ _ _ (h.row j g hj).2 rfl⟩, h.ge⟩
  show World.ownsRow _ _ _ _ _ (s.vs.set i x).length (votV (s.vs.set i x))
  rw [List.length_set]
  refine ⟨by rw [votV_length, List.length_set], .inr ⟨bv, cv, _, rfl, hge, hh2, hnc, hcm, by simp [hcs], ?_⟩⟩
  rw [← votV_set _ _ _ hi, ← htk]
  simp [List.take_set]
end Go.Proofs.Ytefbdikoichaeaa
