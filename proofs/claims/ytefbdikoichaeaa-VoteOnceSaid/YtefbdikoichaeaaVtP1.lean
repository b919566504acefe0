/-
  VOTE: voussoirlaw13.Play in memory; certified.
-/
import Derived.Test.YtefbdikoichaeaaVt9
import Derived.Test.YtefbdikoichaeaaVtS
import Derived.LoopTactic
namespace Go.Proofs.Ytefbdikoichaeaa
open Go.RowKit

/-- blocks of cells are as they were, but for those of types in 'bad' -/
def KT (bad : TypeId → Bool) (w w' : World) : Prop := ∀ (k : Nat) (c : Array Value) (T : TypeId) (f : Nat × Nat), w.heap[k]? = some (.cells c T f) → bad T = false → w'.heap[k]? = some (.cells c T f)
theorem KT.of_new {bad : TypeId → Bool} {w w' : World} (h : New w w') : KT bad w w' := fun _ _ _ _ hk _ => h.kept hk (fun h => h)
theorem KT.of_keeps {bad : TypeId → Bool} {S : Nat → Prop} {w w' : World} (h : Keeps S w w') (hS : ∀ k c T f, S k → w.heap[k]? = some (.cells c T f) → bad T = true) : KT bad w w' :=
  fun k c T f hk hb => h.kept hk (fun hs => by rw [hS k c T f hs hk] at hb; cases hb)
theorem KT.drew {bad : TypeId → Bool} {w w' : World} (h : KT bad w w') : KT bad w w'.drew := h
theorem KT.trans {bad : TypeId → Bool} {a b c : World} (h : KT bad a b) (k : KT bad b c) : KT bad a c := fun j x T f hj hb => k j x T f (h j x T f hj hb) hb
theorem KT.owns {bad : TypeId → Bool} {w w' : World} (h : KT bad w w') {base : Nat} {e : TypeId} {size : Nat} {v : Value} {n : Nat} {xs : List Value} (ho : w.ownsRow base e size v n xs) (he : bad e = false) : w'.ownsRow base e size v n xs := by
  refine ⟨ho.1, ?_⟩
  rcases ho.2 with hn | ⟨g, cap, cur, rfl, hb, hgg, rest⟩
  · exact .inl hn
  · exact .inr ⟨g, cap, cur, rfl, hb, h g _ _ _ hgg he, rest⟩
theorem KT.tr {bad : TypeId → Bool} {w0 w w' : World} {b : Nat} {l : List Bl} (h : KT bad w w') (ht : TrN w0 w b l) (n : New w0 w') (h1 : bad 64 = false) (h2 : bad 61 = false) : TrN w0 w' b l := by
  obtain ⟨a1, a2, a3, g, cap, a4, a5⟩ := ht
  exact ⟨a1, n, a3, g, cap, ⟨h _ _ _ _ a4.blk h1, h.owns a4.own h2, a4.ne⟩, a5⟩

def Vo.cells (x : Vo) : List Value := [.int .u64 x.voted, .int .i64 x.lock]
def votV (l : List Vo) : List Value := l.flatMap Vo.cells
theorem votV_append (l m : List Vo) : votV (l ++ m) = votV l ++ votV m := by simp [votV]
theorem votV_length (l : List Vo) : (votV l).length = l.length * 2 := by
  induction l with
  | nil => rfl
  | cons a l ih => rw [show votV (a :: l) = a.cells ++ votV l from rfl, List.length_append, ih]; simp [Vo.cells]; omega
theorem votV_at (l : List Vo) : ∀ i, i < l.length → (votV l)[i * 2]? = some (.int .u64 (vtd l i)) ∧ (votV l)[i * 2 + 1]? = some (.int .i64 (lck l i)) := by
  induction l with
  | nil => intro i h; simp at h
  | cons a l ih =>
    intro i h
    rw [show votV (a :: l) = a.cells ++ votV l from rfl]
    rcases i with _ | i
    · exact ⟨rfl, rfl⟩
    · have := ih i (by simpa using h)
      have e1 : (i + 1) * 2 = i * 2 + a.cells.length := by simp [Vo.cells]; omega
      have e2 : (i + 1) * 2 + 1 = i * 2 + 1 + a.cells.length := by simp [Vo.cells]; omega
      rw [e1, show i * 2 + a.cells.length + 1 = i * 2 + 1 + a.cells.length by omega, List.getElem?_append_right (by omega), List.getElem?_append_right (by omega), Nat.add_sub_cancel, Nat.add_sub_cancel]
      exact this
def boolV (r : List Bool) : List Value := r.map Value.bool
def slcV (n : Nat) (gs : List Nat) : List Value := gs.map fun g => .slice (some ⟨g, 0, none⟩) n n

/-- block p is a Play of n voters: all of it has been made since w0 -/
structure PlA (w0 w : World) (p n f : Nat) (s : Ps) (bt : Nat) (vv vo : Value) (gs : List Nat) : Prop where
  blk : w.heap[p]? = some (.cells #[.pointer (some ⟨bt, 0, none⟩), .int .i64 n, .int .i64 f, vv, vo] 54 (0, 0))
  tree : TrN w0 w bt s.l
  vot : w.ownsRow w0.heap.size 43 2 vv s.vs.length (votV s.vs)
  rws : w.ownsRow w0.heap.size 58 1 vo s.rows.length (slcV n gs)
  len : gs.length = s.rows.length
  nod : gs.Nodup
  row : ∀ (i : Nat) (g : Nat), gs[i]? = some g → w0.heap.size ≤ g ∧ w.heap[g]? = some (.cells (boolV (row s.rows i)).toArray 4 (0, 0))
  ge : w0.heap.size ≤ p
def Pl (w0 w : World) (p n f : Nat) (s : Ps) : Prop := ∃ bt vv vo gs, PlA w0 w p n f s bt vv vo gs

section
variable {w0 w : World} {p n f : Nat} {s : Ps} {bt : Nat} {vv vo : Value} {gs : List Nat}
theorem PlA.keepT {bad : TypeId → Bool} {w' : World} (h : PlA w0 w p n f s bt vv vo gs) (k : KT bad w w') (hn : New w0 w')
    (b1 : bad 54 = false) (b2 : bad 64 = false) (b3 : bad 61 = false) (b4 : bad 43 = false) (b5 : bad 58 = false) (b6 : bad 4 = false) :
    PlA w0 w' p n f s bt vv vo gs :=
  ⟨k _ _ _ _ h.blk b1, k.tr h.tree hn b2 b3, k.owns h.vot b4, k.owns h.rws b5, h.len, h.nod, fun i g hg => ⟨(h.row i g hg).1, k _ _ _ _ (h.row i g hg).2 b6⟩, h.ge⟩
theorem PlA.keep {w' : World} (h : PlA w0 w p n f s bt vv vo gs) (k : New w w') : PlA w0 w' p n f s bt vv vo gs :=
  h.keepT (bad := fun _ => false) (KT.of_new k) (h.tree.new.then k (fun _ h => h.elim)) rfl rfl rfl rfl rfl rfl
theorem PlA.drew (h : PlA w0 w p n f s bt vv vo gs) : PlA w0 w.drew p n f s bt vv vo gs :=
  ⟨h.blk, h.tree.drew, h.vot, h.rws, h.len, h.nod, h.row, h.ge⟩
theorem PlA.drewN (h : PlA w0 w p n f s bt vv vo gs) (m : Nat) : PlA w0 (w.drewN m) p n f s bt vv vo gs :=
  ⟨h.blk, h.tree.drewN m, h.vot, h.rws, h.len, h.nod, h.row, h.ge⟩

theorem PlA.cells (h : PlA w0 w p n f s bt vv vo gs) :
    w.cell? ⟨p, 0, none⟩ = some (.pointer (some ⟨bt, 0, none⟩)) ∧ w.cell? ⟨p, 1, none⟩ = some (.int .i64 n) ∧ w.cell? ⟨p, 2, none⟩ = some (.int .i64 f) ∧
      w.cell? ⟨p, 3, none⟩ = some vv ∧ w.cell? ⟨p, 4, none⟩ = some vo ∧
      w.frozen? ⟨p, 3, none⟩ = false ∧ w.frozen? ⟨p, 4, none⟩ = false := by
  refine ⟨?_, ?_, ?_, ?_, ?_, frozen_blk h.blk 3, frozen_blk h.blk 4⟩ <;> rw [cell_blk h.blk] <;> rfl
theorem PlA.lt (h : PlA w0 w p n f s bt vv vo gs) : p < w.heap.size := (Array.getElem?_eq_some_iff.1 h.blk).1
theorem PlA.rowAt {bo co : Nat} (h : PlA w0 w p n f s bt vv (.slice (some ⟨bo, 0, none⟩) s.rows.length co) gs) {b : Nat} (hb : b < s.rows.length) :
    ∃ g, gs[b]? = some g ∧ w.cell? ⟨bo, b, none⟩ = some (.slice (some ⟨g, 0, none⟩) n n) ∧ w.heap[g]? = some (.cells (boolV (Go.Proofs.Ytefbdikoichaeaa.row s.rows b)).toArray 4 (0, 0)) := by
  have hl : b < gs.length := by rw [h.len]; exact hb
  refine ⟨gs[b], List.getElem?_eq_getElem hl, ?_, (h.row b gs[b] (List.getElem?_eq_getElem hl)).2⟩
  have hc := h.rws.cells (g := bo) rfl b (.slice (some ⟨gs[b], 0, none⟩) n n) (by simp [slcV, hl])
  rw [addr_add0] at hc
  exact hc
theorem bool_cell {r : List Bool} {T : TypeId} {g : Nat} (h : w.heap[g]? = some (.cells (boolV r).toArray T (0, 0))) {i : Nat} (hi : i < r.length) : w.cell? ⟨g, i, none⟩ = some (.bool (r.getD i false)) := by
  rw [cell_blk h]
  simp [boolV, hi]
theorem PlA.voter {bv cv : Nat} (h : PlA w0 w p n f s bt (.slice (some ⟨bv, 0, none⟩) s.vs.length cv) vo gs) {i : Nat} (hi : i < s.vs.length) :
    w.cell? ⟨bv, i * 2, none⟩ = some (.int .u64 (vtd s.vs i)) ∧ w.cell? ⟨bv, i * 2 + 1, none⟩ = some (.int .i64 (lck s.vs i)) := by
  have hc := h.vot.cells (g := bv) rfl
  obtain ⟨r1, r2⟩ := votV_at s.vs i (by omega)
  have c1 := hc _ _ r1
  have c2 := hc _ _ r2
  rw [addr_add0] at c1 c2
  exact ⟨c1, c2⟩
theorem PlA.voForm (h : PlA w0 w p n f s bt vv vo gs) (h0 : 0 < s.rows.length) : ∃ bo co, vo = .slice (some ⟨bo, 0, none⟩) s.rows.length co := by
  rcases h.rws.2 with ⟨_, h1⟩ | ⟨g, cap, cur, hv, _⟩
  · omega
  · exact ⟨g, cap, hv⟩
theorem PlA.vvForm (h : PlA w0 w p n f s bt vv vo gs) (h0 : 0 < s.vs.length) : ∃ bv cv, vv = .slice (some ⟨bv, 0, none⟩) s.vs.length cv := by
  rcases h.vot.2 with ⟨_, h1⟩ | ⟨g, cap, cur, hv, _⟩
  · omega
  · exact ⟨g, cap, hv⟩
end

theorem cnt_take (r : List Bool) (k : Nat) (hk : k < r.length) : cnt (r.take (k + 1)) = cnt (r.take k) + if r.getD k false then 1 else 0 := by
  rw [List.take_succ_eq_append_getElem hk, cnt, cnt, List.count_append]
  simp [List.getD, hk, List.count_cons]
theorem cnt_le (r : List Bool) : cnt r ≤ r.length := List.count_le_length

set_option maxHeartbeats 2000000 in
theorem certified_any (w0 : World) (p n f : Nat) (s : Ps) (b : Nat) (hb : b < s.rows.length) (hrow : (row s.rows b).length = n) (hn : n ≤ 100) (w : World) (h : Pl w0 w p n f s) :
    Calls Try.prog 35 #[.pointer (some ⟨p, 0, none⟩), .int .i64 b] w fun e w' => e = .returned (.bool (cert n s.rows b)) ∧ w = w' := by
  obtain ⟨bt, vv, vo, gs, h⟩ := h
  obtain ⟨bo, co, rfl⟩ := h.voForm (by omega)
  have hc := h.cells
  obtain ⟨g, _, c1, hg⟩ := h.rowAt hb
  have hb0 : (0 : Int) ≤ (b : Int) := Int.natCast_nonneg _
  have hb1 : (b : Int) < (s.rows.length : Int) := by omega
  clear h
  generalize hr : row s.rows b = r at *
  have HC : Hid (cert n s.rows b = ((b : Int) == 0 || decide ((2 : Int) * (n : Int) < 3 * (cnt r : Int)))) := by
    rw [Hid]; unfold cert; rw [hr]
    have e1 : (b == 0) = ((b : Int) == 0) := by rw [Bool.eq_iff_iff]; simp
    rw [e1]
    congr 1
    rw [Bool.eq_iff_iff]; simp; omega
  clear hr
  go_enter Try.func35, Try.ntmps35
  go_wp2_with fail
  go_loop [5, 6] (fun sm i => ∃ k : Nat, k ≤ n ∧ i = .int .i64 k ∧ sm = .int .i64 (cnt (r.take k) : Nat)) (fun _ i => n - (intOf i).toNat)
  case atStart => exact ⟨0, Nat.zero_le _, rfl, rfl⟩
  case round =>
    obtain ⟨k, hk, rfl, rfl⟩ := hrel
    have hlt0 := cnt_le (r.take k)
    have hlt1 : (r.take k).length ≤ k := List.length_take_le _ _
    by_cases hlt : k < n
    · have hcb := bool_cell hg (i := k) (by omega)
      have hct := cnt_take r k (by omega)
      have HCT := Lib.hid hct
      have hk0 : (0 : Int) ≤ (k : Int) := Int.natCast_nonneg _
      have hk1 : (k : Int) < (n : Int) := by omega
      clear hct
      rcases hv : r.getD k false with _ | _
      · rw [hv] at hcb
        have HV := Lib.hid hv
        clear hv
        go_wp2_with fail
        go_round
        case rel => exact ⟨k + 1, by omega, by go_num, by rw [HCT.out, HV.out]; simp⟩
        case measure => simp [intOf]; omega
      · rw [hv] at hcb
        have HV := Lib.hid hv
        clear hv
        go_wp2_with fail
        go_round
        case rel => exact ⟨k + 1, by omega, by go_num, by rw [HCT.out, HV.out]; simp⟩
        case measure => simp [intOf]; omega
    · obtain rfl : k = n := by omega
      have HT : Hid (r.take k = r) := by rw [Hid]; exact List.take_of_length_le (by omega)
      by_cases h0 : b = 0
      · have e0 : ((b : Int) == 0) = true := by simp [h0]
        have HR : Hid (cert k s.rows b = true) := by rw [Hid, HC.out, e0]; rfl
        clear h0 HC
        go_wp2_with fail
        go_ret
        exact ⟨by rw [HR.out]; rfl, rfl⟩
      · have e0 : ((b : Int) == 0) = false := by simp [h0]
        have HR : Hid (cert k s.rows b = decide ((2 : Int) * (k : Int) < 3 * (cnt (r.take k) : Int))) := by rw [Hid, HC.out, e0, HT.out]; rfl
        clear h0 HC
        go_wp2_with fail
        go_ret
        exact ⟨by rw [HR.out]; rfl, rfl⟩
end Go.Proofs.Ytefbdikoichaeaa
