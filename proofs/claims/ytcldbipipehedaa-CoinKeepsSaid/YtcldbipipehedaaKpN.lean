/-
  PLAIN: names of few that are people; what is under way grows and shrinks in memory.
-/
import Derived.Test.YtcldbipipehedaaKpW
import Derived.Test.YtcldbipipehedaaStp
import Derived.Deep.AppendSrc
import Derived.Laws.OwnMore
namespace Go.Proofs.Ytcldbipipehedaa
open Go.RowKit Go.ChangeMaps
theorem nm_ppl {k : Nat} (h : 1 ≤ (nmL k).length) (he : isEsc (nmL k) = false) : ppl (nmL k) := by
  unfold nmL at h he ⊢
  split at h
  · exact .inl rfl
  · exact .inr (.inl rfl)
  · exact .inr (.inr rfl)
  · exact absurd he (by decide)
  · exact absurd he (by decide)
  · exact absurd h (by decide)
theorem pk_small {a n : Nat} (h : a < n) : pk (a : Int) n = a := by
  unfold pk
  rw [if_neg (by omega), Int.emod_eq_of_lt (by omega) (by omega)]
  simp
theorem nm_three {a : Nat} (h : a < 3) : ppl (nmL (pk (a : Int) 6)) := by
  rw [pk_small (by omega)]
  rcases (by omega : a = 0 ∨ a = 1 ∨ a = 2) with rfl | rfl | rfl
  · exact .inl rfl
  · exact .inr (.inl rfl)
  · exact .inr (.inr rfl)
theorem out_chk {s : BkS} {ch : Nat} {c : Co} (h : outE s ch c = 0) : chkC c = 0 := by
  unfold outE at h
  by_cases hc : chkC c = 0
  · exact hc
  · rw [if_neg hc] at h; exact absurd h hc
/-- an Out, whatever the coin of few names is -/
theorem ki_out {s : Nat → BkS} {l : List Wy} {much : Nat} (h : KI s l much) (hm : much < 18446744073709551616) {o k : Nat} (ho : o < 2) (hk : k < 2) {c : Co} {i j : Nat} (hf : c.fr = nmL i) (ht : c.to = nmL j) (hu : U64 c.amt)
    (hd : c.den = owL o k ∨ c.den = vchr (1 - o) k) (hE : outE (s o) (1 + o) c = 0) : KI (set2 s o (outS (s o) (1 + o) c)) (l ++ [⟨o, c, false⟩]) much := by
  have hc := out_chk hE
  obtain ⟨z1, z2, z3, z4, z5, z6, z7, z8, z9⟩ := chkC_zero hc
  have pf : ppl c.fr := by rw [hf] at z3 z8 ⊢; exact nm_ppl z3 z8
  have pt : ppl c.to := by rw [ht] at z5 z9 ⊢; exact nm_ppl z5 z9
  rcases hd with hd | hd
  · exact ki_out_own h hm ho hk hc pf pt hu hd hE
  · exact ki_out_vch h hm ho hk hc pf pt hu hd hE
theorem info_way : (Try.prog.info? 54).map (fun i => (i.zero, i.size, i.bytes)) = some (some (.agg #[.int .i64 0, .string ⟨#[]⟩, .int .u64 0, .string ⟨#[]⟩, .string ⟨#[]⟩, .bool false]), 6, 72) := by kernel_rfl
theorem info_partsW : ∃ i, Try.prog.info? 54 = some i ∧ i.zero = some (.agg #[.int .i64 0, .string ⟨#[]⟩, .int .u64 0, .string ⟨#[]⟩, .string ⟨#[]⟩, .bool false]) ∧ i.size = 6 ∧ i.bytes = 72 := by
  have h := info_way
  cases e : Try.prog.info? 54 with
  | none => rw [e] at h; cases h
  | some i => rw [e] at h; simp at h; exact ⟨i, rfl, h.1, h.2.1, h.2.2⟩
/-- one way, laid in a block of its own, as a source -/
theorem src_way (w : World) (x : Wy) (T : TypeId) : Src Try.prog 6 52 (.slice (some ⟨w.heap.size, 0, none⟩) 1 1) 1 (wyV x) (w.alloc (.cells (wyV x).toArray T)) := by
  refine Src.ofSlice _ Try.underlying52 ⟨w.heap.size, 0, none⟩ 1 1 (wyV x) rfl (fun j u hj => ?_) (fun u hu => ?_)
  · rw [Addr.add_lit, cell_blk (heap_alloc_new w _)]
    simpa using hj
  · have := flatW_one [x] u
    simp only [flatW, List.append_nil] at this
    exact this hu
/-- the front of what is under way as a source -/
theorem src_front {w0 w : World} {g n cap c : Nat} {l : List Wy} (h : Wys w0 w (.slice (some ⟨g, 0, none⟩) n cap) l) {k : Nat} (hk : k ≤ l.length) : Src Try.prog 6 52 (.slice (some ⟨g, 0, none⟩) k c) k (flatW (l.take k)) w := by
  refine Src.ofSlice _ Try.underlying52 ⟨g, 0, none⟩ k c _ (by rw [flatW_len, List.length_take]; congr 1; omega) (fun j u hj => ?_) (flatW_one _)
  have h2 : (flatW l)[j]? = some u := by
    rw [flatW_take] at hj
    rw [List.getElem?_take] at hj
    split at hj
    · exact hj
    · cases hj
  exact World.ownsRow.cells h (g := g) rfl j u h2
/-- .. and its end -/
theorem src_end {w0 w : World} {g n cap c : Nat} {l : List Wy} (h : Wys w0 w (.slice (some ⟨g, 0, none⟩) n cap) l) {k m : Nat} (hk : k + m = l.length) : Src Try.prog 6 52 (.slice (some ⟨g, k * 6, none⟩) m c) m (flatW (l.drop k)) w := by
  refine Src.ofSlice _ Try.underlying52 ⟨g, k * 6, none⟩ m c _ (by rw [flatW_len, List.length_drop]; congr 1; omega) (fun j u hj => ?_) (flatW_one _)
  have h2 : (flatW l)[k * 6 + j]? = some u := by
    rw [flatW_drop, List.getElem?_drop] at hj
    exact hj
  have := World.ownsRow.cells h (g := g) rfl _ u h2
  rw [Addr.add_lit] at this ⊢
  simpa using this
/-- marked as failed -/
theorem Wys.failed {w0 w : World} {g n cap : Nat} {l : List Wy} (h : Wys w0 w (.slice (some ⟨g, 0, none⟩) n cap) l) (hn : n = l.length) {k : Nat} {x : Wy} (hx : l[k]? = some x) :
    Wys w0 (w.setCell ⟨g, k * 6 + 5, none⟩ (.bool true)) (.slice (some ⟨g, 0, none⟩) n cap) (l.set k x.fail) := by
  subst hn
  unfold Wys at h ⊢
  rw [List.length_set, flatW_set l hx]
  exact (World.ownsRow.stored h (k * 6 + 5) (.bool true)).1
end Go.Proofs.Ytcldbipipehedaa
