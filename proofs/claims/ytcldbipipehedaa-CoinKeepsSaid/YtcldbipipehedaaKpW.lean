/-
  Two banks of the call's own, by number; the slice of banks; the slice of what is under way. No walk here.
-/
import Derived.Test.YtcldbipipehedaaKpV
import Derived.Test.YtcldbipipehedaaAwl
import Derived.Test.YtcldbipipehedaaCRf
import Derived.Laws.OwnMore
namespace Go.Proofs.Ytcldbipipehedaa
open Go.RowKit Go.ChangeMaps
/-- two banks made since w0: bank o lies in block P o -/
def Prs (w0 w : World) (P : Nat → Nat) (n : Nat) (s : Nat → BkS) : Prop := Pr w0 w (P 0) (P 1) n (s 0) (s 1)
theorem Prs.new {w0 w : World} {P : Nat → Nat} {n : Nat} {s : Nat → BkS} (h : Prs w0 w P n s) : New w0 w := Pr.new h
theorem Prs.keep {w0 w w' : World} {P : Nat → Nat} {n : Nat} {s : Nat → BkS} (h : Prs w0 w P n s) (k : New w w') : Prs w0 w' P n s := Pr.keep h k
theorem Prs.drew {w0 w : World} {P : Nat → Nat} {n : Nat} {s : Nat → BkS} (h : Prs w0 w P n s) : Prs w0 w.drew P n s := Pr.drew h
theorem Prs.mono {w0 w : World} {P : Nat → Nat} {n m : Nat} {s : Nat → BkS} (h : Prs w0 w P n s) (hm : n ≤ m) : Prs w0 w P m s := Pr.mono h hm
theorem Prs.sg {w0 w : World} {P : Nat → Nat} {n : Nat} {s : Nat → BkS} (h : Prs w0 w P n s) {o : Nat} (ho : o < 2) : Sg w0 w (P o) n (s o) := by
  rcases (by omega : o = 0 ∨ o = 1) with rfl | rfl
  · exact Pr.fst h
  · exact Pr.snd h
theorem Prs.act {w0 w : World} {P : Nat → Nat} {n : Nat} {s : Nat → BkS} (h : Prs w0 w P n s) {o : Nat} (ho : o < 2) {f : FuncId} {args : Array Value} {v : Value} {s' : BkS}
    (H : ∀ ma sa, Bk w (P o) ma sa n (s o) → Calls Try.prog f args w fun e w' => e = .returned v ∧ Bk w' (P o) ma sa (n + 2) s' ∧ Keeps (Two ma sa) w w') :
    Calls Try.prog f args w fun e w' => e = .returned v ∧ Prs w0 w' P (n + 2) (set2 s o s') ∧ KC w w' := by
  rcases (by omega : o = 0 ∨ o = 1) with rfl | rfl
  · refine (Pr.actA h H).mono fun _ _ ⟨he, hp, hk⟩ => ⟨he, ?_, hk⟩
    show Pr _ _ _ _ _ (set2 s 0 s' 0) (set2 s 0 s' 1)
    rw [set2_at, set2_ne s s' (by omega)]; exact hp
  · refine (Pr.actB h H).mono fun _ _ ⟨he, hp, hk⟩ => ⟨he, ?_, hk⟩
    show Pr _ _ _ _ _ (set2 s 1 s' 0) (set2 s 1 s' 1)
    rw [set2_at, set2_ne s s' (by omega)]; exact hp
/-- a store into a block of cells leaves the banks -/
theorem Prs.stored {w0 wx W : World} {P : Nat → Nat} {n : Nat} {s : Nat → BkS} (h : Prs w0 wx P n s) {Q : Nat} {c : Array Value} {T : TypeId} {f : Nat × Nat} (p : wx.heap[Q]? = some (.cells c T f)) (hT : T ≠ 83) (hQ : w0.heap.size ≤ Q)
    (k : Keeps (fun k => k = Q) wx W) : Prs w0 W P n s := by
  obtain ⟨ma, sa, mb, sb, h1, h2, h3, h4⟩ := h
  have one : ∀ {b mb sb : Nat} {t : BkS}, Bk wx b mb sb n t → Bk W b mb sb n t := by
    intro b mb sb t h1
    refine h1.keepS k ?_ ?_ ?_
    · intro e
      have := h1.blk
      rw [show b = Q from e, p] at this
      simp at this
      exact hT this.2.1
    · exact fun e => h1.mp.not_cells p e.symm
    · exact fun e => h1.su.not_cells p e.symm
  exact ⟨ma, sa, mb, sb, one h1, one h2, h3.then k (fun j hj => .inr (by rw [hj]; exact hQ)), h4⟩
/-- the slice of both banks -/
def bL (w : World) (G : Nat) (P : Nat → Nat) : Prop := w.heap[G]? = some (.cells #[.pointer (some ⟨P 0, 0, none⟩), .pointer (some ⟨P 1, 0, none⟩)] 31 (0, 0))
theorem bL.kc {w w' : World} {G : Nat} {P : Nat → Nat} (h : bL w G P) (k : KC w w') : bL w' G P := k _ _ _ _ h
theorem bL.keep {w w' : World} {G : Nat} {P : Nat → Nat} (h : bL w G P) (k : New w w') : bL w' G P := k.kept h (fun h => h)
theorem bL.drew {w : World} {G : Nat} {P : Nat → Nat} (h : bL w G P) : bL w.drew G P := h
theorem bL.cell {w : World} {G : Nat} {P : Nat → Nat} (h : bL w G P) {o : Nat} (ho : o < 2) : w.cell? ⟨G, o, none⟩ = some (.pointer (some ⟨P o, 0, none⟩)) := by
  rcases (by omega : o = 0 ∨ o = 1) with rfl | rfl <;> (rw [cell_blk h]; rfl)
/-- a way's cells -/
def wyV (x : Wy) : List Value := [.int .i64 (x.fr : Nat), .string ⟨x.c.den.toArray⟩, .int .u64 (x.c.amt : Nat), .string ⟨x.c.fr.toArray⟩, .string ⟨x.c.to.toArray⟩, .bool x.failed]
def flatW : List Wy → List Value
  | [] => []
  | x :: l => wyV x ++ flatW l
theorem flatW_len (l : List Wy) : (flatW l).length = l.length * 6 := by
  induction l with
  | nil => rfl
  | cons x l ih => simp only [flatW, List.length_append, ih, List.length_cons, wyV]; simp; omega
theorem flatW_app (l r : List Wy) : flatW (l ++ r) = flatW l ++ flatW r := by
  induction l with
  | nil => rfl
  | cons x l ih => simp only [List.cons_append, flatW, ih, List.append_assoc]
theorem flatW_at {l : List Wy} {i : Nat} {x : Wy} (h : l[i]? = some x) {j : Nat} {u : Value} (hj : (wyV x)[j]? = some u) : (flatW l)[i * 6 + j]? = some u := by
  obtain ⟨hi, rfl⟩ := List.getElem?_eq_some_iff.1 h
  have e : l = l.take i ++ (l[i] :: l.drop (i + 1)) := by rw [List.getElem_cons_drop, List.take_append_drop]
  have e2 : flatW l = flatW (l.take i) ++ (wyV l[i] ++ flatW (l.drop (i + 1))) := by
    have := congrArg flatW e
    rw [flatW_app] at this
    exact this
  have hl : (flatW (l.take i)).length = i * 6 := by rw [flatW_len, List.length_take]; congr 1; omega
  have hj6 : j < (wyV l[i]).length := (List.getElem?_eq_some_iff.1 hj).1
  rw [e2, List.getElem?_append_right (by omega), hl, show i * 6 + j - i * 6 = j by omega, List.getElem?_append_left hj6]
  exact hj
theorem flatW_one (l : List Wy) : ∀ u ∈ flatW l, u.oneCell' = true := by
  induction l with
  | nil => intro u h; cases h
  | cons x l ih =>
    intro u h
    rcases List.mem_append.1 h with h | h
    · simp only [wyV, List.mem_cons, List.not_mem_nil, or_false] at h
      rcases h with rfl | rfl | rfl | rfl | rfl | rfl <;> rfl
    · exact ih u h
theorem flatW_take (l : List Wy) (k : Nat) : flatW (l.take k) = (flatW l).take (k * 6) := by
  induction l generalizing k with
  | nil => simp [flatW]
  | cons x l ih =>
    cases k with
    | zero => simp [flatW]
    | succ k =>
      rw [List.take_succ_cons, flatW, flatW, ih, show (k + 1) * 6 = k * 6 + 6 by omega]
      rfl
theorem flatW_drop (l : List Wy) (k : Nat) : flatW (l.drop k) = (flatW l).drop (k * 6) := by
  induction l generalizing k with
  | nil => simp [flatW]
  | cons x l ih =>
    cases k with
    | zero => simp [flatW]
    | succ k =>
      rw [List.drop_succ_cons, flatW, ih, show (k + 1) * 6 = k * 6 + 6 by omega]
      rfl
theorem flatW_set (l : List Wy) {k : Nat} {x : Wy} (h : l[k]? = some x) : flatW (l.set k x.fail) = (flatW l).set (k * 6 + 5) (.bool true) := by
  induction l generalizing k with
  | nil => cases h
  | cons y l ih =>
    cases k with
    | zero =>
      simp at h
      subst h
      rfl
    | succ k =>
      have h2 : l[k]? = some x := by simpa using h
      rw [List.set_cons_succ, flatW, flatW, ih h2, show (k + 1) * 6 + 5 = (k * 6 + 5) + 6 by omega]
      rfl
/-- what is under way, as a slice of the call's own -/
def Wys (w0 w : World) (v : Value) (l : List Wy) : Prop := w.ownsRow w0.heap.size 54 6 v l.length (flatW l)
theorem Wys.keep {w0 w w' : World} {v : Value} {l : List Wy} (h : Wys w0 w v l) (k : New w w') : Wys w0 w' v l := Keeps.owns k h (fun _ _ h => h)
theorem Wys.kc {w0 w w' : World} {v : Value} {l : List Wy} (h : Wys w0 w v l) (k : KC w w') : Wys w0 w' v l := by
  refine ⟨h.1, ?_⟩
  rcases h.2 with hn | ⟨g, cap, cur, rfl, hb, hgg, rest⟩
  · exact .inl hn
  · exact .inr ⟨g, cap, cur, rfl, hb, k _ _ _ _ hgg, rest⟩
theorem Wys.drew {w0 w : World} {v : Value} {l : List Wy} (h : Wys w0 w v l) : Wys w0 w.drew v l := h
/-- the shape of the slice -/
theorem Wys.shape {w0 w : World} {v : Value} {l : List Wy} (h : Wys w0 w v l) : ∃ a cap, v = .slice a l.length cap ∧ (l ≠ [] → ∃ g, a = some ⟨g, 0, none⟩ ∧ g < w.heap.size ∧ w0.heap.size ≤ g ∧ ∃ cs, w.heap[g]? = some (.cells cs 54 (0, 0))) := by
  rcases h.2 with ⟨rfl, hn⟩ | ⟨g, cap, cur, rfl, hb, hgg, rest⟩
  · exact ⟨none, 0, by rw [hn], fun hl => absurd (List.eq_nil_of_length_eq_zero hn) hl⟩
  · exact ⟨some ⟨g, 0, none⟩, cap, rfl, fun _ => ⟨g, rfl, (Array.getElem?_eq_some_iff.1 hgg).1, hb, _, hgg⟩⟩
theorem Wys.at {w0 w : World} {g n cap : Nat} {l : List Wy} (h : Wys w0 w (.slice (some ⟨g, 0, none⟩) n cap) l) {i : Nat} {x : Wy} (hx : l[i]? = some x) :
    w.cell? ⟨g, i * 6, none⟩ = some (.int .i64 (x.fr : Nat)) ∧ w.cell? ⟨g, i * 6 + 1, none⟩ = some (.string ⟨x.c.den.toArray⟩) ∧ w.cell? ⟨g, i * 6 + 2, none⟩ = some (.int .u64 (x.c.amt : Nat)) ∧
      w.cell? ⟨g, i * 6 + 3, none⟩ = some (.string ⟨x.c.fr.toArray⟩) ∧ w.cell? ⟨g, i * 6 + 4, none⟩ = some (.string ⟨x.c.to.toArray⟩) ∧ w.cell? ⟨g, i * 6 + 5, none⟩ = some (.bool x.failed) := by
  have hc : ∀ j u, (wyV x)[j]? = some u → w.cell? ⟨g, i * 6 + j, none⟩ = some u := fun j u hj => by
    have := World.ownsRow.cells h (g := g) rfl _ u (flatW_at hx hj)
    rw [Addr.add_lit] at this
    simpa using this
  exact ⟨hc 0 _ rfl, hc 1 _ rfl, hc 2 _ rfl, hc 3 _ rfl, hc 4 _ rfl, hc 5 _ rfl⟩
theorem Wys.nil (w0 w : World) : Wys w0 w (.slice none 0 0) [] := World.ownsRow_nil _ _ _ _
end Go.Proofs.Ytcldbipipehedaa
