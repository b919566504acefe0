/-
  ITEMS as cells: a slice of items as a source of append, and as a slice of one's own. A law for append under a guard.
-/
import Derived.Test.YtclldibadmnppaaCod6
namespace Go.Proofs.Ytclldibadmnppaa
open Go.RowKit

/-- append where a guard stands before it (a && append(..)) -/
theorem wpList_appg {P : Program} (w : World) {ops : Array Oper} {rest : List Oper} {o : Oper} {a : Act} {Q : Exit → Act → World → Prop} (hgd : Region.wanted o (yielded ops a.tmps) = true) (s x : Operand) (t tx : TypeId)
    (ho : o.op = .call { callee := .builtin .append, args := #[s, x], argTypes := #[t, tx] })
    (base : Nat) (e : TypeId) (i : TypeInfo) (z : Value) (size bytes : Nat) (ht : P.underlying t = some (.slice e)) (hi : P.info? e = some i) (hz : i.zero = some z)
    (hsize : i.size = size) (hby : i.bytes = bytes) (hzs : z.cells.size = size)
    (v : Value) (n : Nat) (xs : List Value) (hv : a.eval s = v) (hown : w.ownsRow base e size v n xs)
    (xv : Value) (m : Nat) (news : List Value) (hx : a.eval x = xv) (hs : Src P size tx xv m news w)
    (h63 : n + m ≤ maxLen) (hbytes : (n + m) * bytes ≤ 140737488355328) (hbase : base ≤ w.heap.size)
    (h : ∀ v' w', w'.ownsRow base e size v' (n + m) (xs ++ news) → w.grownBy w' v.ownBlock → (v'.ownBlock = v.ownBlock ∨ v'.ownBlock = some w.heap.size ∧ w.heap.size < w'.heap.size) → wpList P ops Q rest (a.put o.dst v') w') : wpList P ops Q (o :: rest) a w := by
  refine wpList_step fun K hK => ?_
  rw [if_pos hgd]
  obtain ⟨v', w', hr, h2, h3, h4⟩ := run_app (P := P) w base t tx o.type e i z size bytes ht hi hz hsize hby hzs v n xs hown xv m news hs h63 hbytes hbase
  unfold Oper.wp execOp
  simp only [ho, resolve, invoke, builtin, Sem.run_bind, Sem.run_pure, Result.andThen_ok, List.map_toArray, List.map_cons, List.map_nil, hv, hx, hr]
  exact hK _ _ (h v' w' h2 h3 h4)

def It.cells (x : It) : List Value := [.bool x.isT, .int .u64 x.n, .string ⟨x.s.toArray⟩]
def itemsV (l : List It) : List Value := l.flatMap It.cells
theorem itemsV_append (a b : List It) : itemsV (a ++ b) = itemsV a ++ itemsV b := by simp [itemsV]
theorem itemsV_length (l : List It) : (itemsV l).length = l.length * 3 := by
  induction l with
  | nil => rfl
  | cons x l ih => simp only [itemsV, List.flatMap_cons, List.length_append, List.length_cons] at *; rw [ih]; simp [It.cells]; omega
theorem itemsV_get (l : List It) : ∀ (i j : Nat) (x : It), l[i]? = some x → j < 3 → (itemsV l)[i * 3 + j]? = x.cells[j]? := by
  induction l with
  | nil => intro i j x h; simp at h
  | cons y l ih =>
    intro i j x h hj
    have hlen : y.cells.length = 3 := rfl
    cases i with
    | zero =>
      simp at h; subst h
      simp only [itemsV, List.flatMap_cons]
      rw [List.getElem?_append_left (by rw [hlen]; omega)]
      simp
    | succ i =>
      simp only [itemsV, List.flatMap_cons]
      rw [List.getElem?_append_right (by rw [hlen]; omega), hlen]
      have := ih i j x (by simpa using h) hj
      simp only [itemsV] at this
      rw [← this]
      congr 1
      omega
theorem itemsV_at (l : List It) (k : Nat) (u : Value) (h : (itemsV l)[k]? = some u) : ∃ x, l[k / 3]? = some x ∧ x.cells[k % 3]? = some u := by
  have hk : k < l.length * 3 := by have := (List.getElem?_eq_some_iff.1 h).1; rw [itemsV_length] at this; exact this
  have hd : k / 3 < l.length := by omega
  refine ⟨l[k / 3], List.getElem?_eq_getElem hd, ?_⟩
  rw [← itemsV_get l (k / 3) (k % 3) _ (List.getElem?_eq_getElem hd) (by omega), ← h]
  congr 1
  omega
theorem itemsV_one (l : List It) : ∀ u ∈ itemsV l, u.oneCell' = true := by
  intro u hu
  obtain ⟨x, _, hx⟩ := List.mem_flatMap.1 hu
  simp [It.cells] at hx
  rcases hx with rfl | rfl | rfl <;> rfl

/-- a slice of items, as what append appends -/
theorem Items.src {w : World} {a : Option Addr} {l : List It} (h : Items w a l) (len cap : Nat) (hlen : l.length = len) : Src Try.prog 3 46 (.slice a len cap) len (itemsV l) w := by
  cases a with
  | none =>
    have : l = [] := by
      cases l with
      | nil => rfl
      | cons x l => obtain ⟨b, o, ha, _⟩ := h 0 x rfl; cases ha
    subst this
    simp at hlen; subst hlen
    exact Src.ofNil w Try.underlying46 cap
  | some ad =>
    refine Src.ofSlice w Try.underlying46 ad len cap (itemsV l) (by rw [itemsV_length, hlen]) (fun k u hu => ?_) (itemsV_one l)
    obtain ⟨x, hx, hc⟩ := itemsV_at l k u hu
    obtain ⟨b, o, ha, hb, hn, c0, c1, c2⟩ := h _ _ hx
    cases ha
    rw [Addr.add_lit]
    have e : o + k = o + k / 3 * 3 + k % 3 := by omega
    rw [e]
    have hm : k % 3 = 0 ∨ k % 3 = 1 ∨ k % 3 = 2 := by omega
    rcases hm with hm | hm | hm <;> rw [hm] at hc ⊢ <;> simp [It.cells] at hc <;> subst hc
    · exact c0
    · exact c1
    · exact c2

/-- a slice of one's own that holds the cells of items -/
theorem Items.of_own {w : World} {base : Nat} {v : Value} {l : List It} (h : w.ownsRow base 50 3 v l.length (itemsV l)) (hu : ∀ x ∈ l, U64 x.n) : ∃ a cap, v = .slice a l.length cap ∧ Items w a l ∧ ∀ b o, a = some ⟨b, o, none⟩ → v.ownBlock = some b := by
  rcases h.2 with ⟨rfl, hn⟩ | ⟨g, cap, cur, rfl, hb, hg, rest⟩
  · have : l = [] := List.eq_nil_of_length_eq_zero hn
    subst this
    exact ⟨none, 0, rfl, fun i x h => by simp at h, fun b o h => by cases h⟩
  · refine ⟨some ⟨g, 0, none⟩, cap, rfl, fun i x hx => ?_, fun b o h => by cases h; rfl⟩
    have hlt := (Array.getElem?_eq_some_iff.1 hg).1
    have hc := h.cells (g := g) rfl
    refine ⟨g, 0, rfl, hlt, hu x (List.mem_of_getElem? hx), ?_, ?_, ?_⟩
    · have := hc (i * 3 + 0) _ ((itemsV_get l i 0 x hx (by omega)).trans rfl); rw [Addr.add_lit] at this; exact this
    · have := hc (i * 3 + 1) _ ((itemsV_get l i 1 x hx (by omega)).trans rfl); rw [Addr.add_lit] at this; exact this
    · have := hc (i * 3 + 2) _ ((itemsV_get l i 2 x hx (by omega)).trans rfl); rw [Addr.add_lit] at this; exact this

theorem infoI : (Try.prog.info? 50).map (fun i => (i.zero, i.size, i.bytes)) = some (some (.agg #[.bool false, .int .u64 0, .string ⟨#[]⟩]), 3, 32) := by kernel_rfl
end Go.Proofs.Ytclldibadmnppaa
