/-
  VOTE: a row of votes more; voussoirlaw13.begins.
-/
import Derived.Test.YtefbdikoichaeaaVtP1
import Derived.Laws.MakeOwn
import Derived.Deep.AppendLies
import Derived.Deep.RegionHeld3
import Derived.Deep.DrawnRows
namespace Go.Proofs.Ytefbdikoichaeaa
open Go.RowKit
attribute [local go_sem ↓] Go.wp_at_zero Go.wp_at_succ

theorem KT.set {w : World} {a : Nat} {c : Array Value} {T : TypeId} {f : Nat × Nat} (h : w.heap[a]? = some (.cells c T f)) (i : Nat) (x : Value) : KT (fun t => t == T) w (w.setCell ⟨a, i, none⟩ x) := by
  intro k c' T' f' hk hb
  refine (Below.heap_setCell w ⟨a, i, none⟩ x k ?_).trans hk
  rintro rfl
  have := hk.symm.trans h
  simp at this
  rw [this.2.1] at hb
  simp at hb
theorem KT.grown {w w' : World} {T : TypeId} {row : Option Nat} (hg : w.grownBy w' row) (hr : ∀ k, row = some k → ∃ c f, w.heap[k]? = some (.cells c T f)) : KT (fun t => t == T) w w' := by
  intro k c' T' f' hk hb
  refine (hg.block k (Array.getElem?_eq_some_iff.1 hk).1 ?_).trans hk
  intro e
  obtain ⟨c, f, h⟩ := hr k e.symm
  have := hk.symm.trans h
  simp at this
  rw [this.2.1] at hb
  simp at hb
theorem own_type {w : World} {base : Nat} {e : TypeId} {size : Nat} {v : Value} {n : Nat} {xs : List Value} (h : w.ownsRow base e size v n xs) : ∀ k, v.ownBlock = some k → ∃ c f, w.heap[k]? = some (.cells c e f) := by
  intro k hk
  rcases h.2 with ⟨rfl, _⟩ | ⟨g, cap, cur, rfl, _, hh, _⟩
  · simp [Value.ownBlock] at hk
  · simp [Value.ownBlock] at hk
    subst hk
    exact ⟨_, _, hh⟩
theorem own_ge {w : World} {base : Nat} {e : TypeId} {size : Nat} {v : Value} {n : Nat} {xs : List Value} (h : w.ownsRow base e size v n xs) : ∀ k, v.ownBlock = some k → base ≤ k := by
  intro k hk
  rcases h.2 with ⟨rfl, _⟩ | ⟨g, cap, cur, rfl, hb, _⟩
  · simp [Value.ownBlock] at hk
  · simp [Value.ownBlock] at hk
    subst hk
    exact hb
theorem New.grown {w0 w w' : World} {row : Option Nat} (h : New w0 w) (hg : w.grownBy w' row) (hr : ∀ k, row = some k → w0.heap.size ≤ k) : New w0 w' :=
  Keeps.grown h hg (fun k hk => .inr (hr k hk))

theorem infoBool : (Try.prog.info? 4).map (fun i => (i.zero, i.size, i.bytes)) = some (some (.bool false), 1, 1) := by kernel_rfl
theorem infoSl : (Try.prog.info? 58).map (fun i => (i.zero, i.size, i.bytes)) = some (some (.slice none 0 0), 1, 24) := by kernel_rfl
theorem infoVo : (Try.prog.info? 43).map (fun i => (i.zero, i.size, i.bytes)) = some (some (.agg #[.int .u64 0, .int .i64 0]), 2, 16) := by kernel_rfl
/-- make([]bool, n) -/
theorem mk_bools (n : Nat) (hn : n ≤ 100) (w : World) : (Instr.makeSlice 58 (.int .i64 (n : Int)) (.int .i64 (n : Int))).run Try.prog w = .ok (.slice (some ⟨w.heap.size, 0, none⟩) n n) (w.alloc (.cells (boolV (List.replicate n false)).toArray 4)) := by
  obtain ⟨i0, hi, hz0, hz1, hz2⟩ := info_parts infoBool
  have hr := run_make (P := Try.prog) w 58 4 i0 (.bool false) Try.underlying58 hi hz0 .i64 .i64 n n (by omega) (by omega) (by rw [hz2]; omega) (by omega)
  simp only [Int.toNat_natCast] at hr
  rw [hr, hz1]
  congr 2
  rw [show (Value.bool false).cells = #[.bool false] from rfl, madeCells_one]
  simp [boolV]

/-- a row more -/
theorem PlA.addRow {w0 w w2 : World} {p n f : Nat} {s : Ps} {bt : Nat} {vv vo : Value} {gs : List Nat} (h : PlA w0 w p n f s bt vv vo gs) {o : Obj} {g2 cap2 : Nat}
    (hown : w2.ownsRow w0.heap.size 58 1 (.slice (some ⟨g2, 0, none⟩) (s.rows.length + 1) cap2) (s.rows.length + 1) (slcV n gs ++ [.slice (some ⟨w.heap.size, 0, none⟩) n n]))
    (hg : ((w.alloc (.cells (boolV (List.replicate n false)).toArray 4)).alloc o).grownBy w2 vo.ownBlock) :
    PlA w0 (w2.setCell ⟨p, 4, none⟩ (.slice (some ⟨g2, 0, none⟩) (s.rows.length + 1) cap2)) p n f ⟨s.l, s.vs, s.rows ++ [List.replicate n false]⟩ bt vv (.slice (some ⟨g2, 0, none⟩) (s.rows.length + 1) cap2) (gs ++ [w.heap.size]) := by
  have n1 : New w ((w.alloc (.cells (boolV (List.replicate n false)).toArray 4)).alloc o) := ((Keeps.refl _ w).alloc _).alloc _
  have k1 : KT (fun t => t == 58) w ((w.alloc (.cells (boolV (List.replicate n false)).toArray 4)).alloc o) := KT.of_new n1
  have hgb : ((w.alloc (.cells (boolV (List.replicate n false)).toArray 4)).alloc o).heap[w.heap.size]? = some (.cells (boolV (List.replicate n false)).toArray 4 (0, 0)) := by
    rw [heap_alloc_old _ _ (by simp), heap_alloc_new]
  generalize (w.alloc (.cells (boolV (List.replicate n false)).toArray 4)).alloc o = w1 at *
  have hty : ∀ k, vo.ownBlock = some k → ∃ c f, w1.heap[k]? = some (.cells c 58 f) := fun k hk => by
    obtain ⟨c, f, hh⟩ := own_type h.rws k hk
    exact ⟨c, f, n1.kept hh (fun h => h)⟩
  have k2 := k1.trans (KT.grown hg hty)
  have nn1 : New w0 w1 := h.tree.new.then n1 (fun _ h => h.elim)
  have n2 : New w0 w2 := nn1.grown hg (fun k hk => own_ge h.rws k hk)
  have hp2 := k2 _ _ _ _ h.blk rfl
  have k3 := KT.set hp2 4 (.slice (some ⟨g2, 0, none⟩) (s.rows.length + 1) cap2)
  have n3 : New w0 (w2.setCell ⟨p, 4, none⟩ (.slice (some ⟨g2, 0, none⟩) (s.rows.length + 1) cap2)) := n2.set h.ge 4 _
  have hlen : ∀ g, g ∈ gs → g < w.heap.size := by
    intro g hg
    obtain ⟨i, hi⟩ := List.mem_iff_getElem?.1 hg
    exact (Array.getElem?_eq_some_iff.1 (h.row i g hi).2).1
  refine ⟨?_, ?_, ?_, ?_, ?_, ?_, ?_, h.ge⟩
  · rw [heap_setCell_blk hp2]; simp
  · exact k3.tr (k2.tr h.tree n2 rfl rfl) n3 rfl rfl
  · exact k3.owns (k2.owns h.vot rfl) rfl
  · have e : slcV n (gs ++ [w.heap.size]) = slcV n gs ++ [.slice (some ⟨w.heap.size, 0, none⟩) n n] := by simp [slcV]
    show World.ownsRow _ _ _ _ _ (s.rows ++ [List.replicate n false]).length _
    rw [e, List.length_append]
    exact k3.owns hown rfl
  · show (gs ++ [w.heap.size]).length = (s.rows ++ [List.replicate n false]).length
    simp [h.len]
  · rw [List.nodup_append]
    refine ⟨h.nod, by simp, ?_⟩
    intro a ha b hb e
    simp at hb
    have := hlen a ha
    omega
  · intro i g hig
    show w0.heap.size ≤ g ∧ (w2.setCell _ _).heap[g]? = some (.cells (boolV (Go.Proofs.Ytefbdikoichaeaa.row (s.rows ++ [List.replicate n false]) i)).toArray 4 (0, 0))
    by_cases hi : i < gs.length
    · rw [List.getElem?_append_left hi] at hig
      rw [row_app _ _ (by rw [← h.len]; exact hi)]
      exact ⟨(h.row i g hig).1, k3 _ _ _ _ (k2 _ _ _ _ (h.row i g hig).2 rfl) rfl⟩
    · have hi2 : i = gs.length := by
        have := (List.getElem?_eq_some_iff.1 hig).1
        simp at this; omega
      subst hi2
      rw [List.getElem?_append_right (Nat.le_refl _)] at hig
      simp at hig
      subst hig
      rw [h.len, row_new]
      exact ⟨h.tree.new.size, k3 _ _ _ _ (KT.grown hg hty _ _ _ _ hgb rfl) rfl⟩
end Go.Proofs.Ytefbdikoichaeaa
