/-
  WALKS: transfer.Take.
-/
import Derived.Test.YtcldbipipehedaaTr4
import Derived.WalkLawsBesides
namespace Go.Proofs.Ytcldbipipehedaa
open Go.RowKit

def nm (p : List UInt8 × Bool) : Nat := numOut p.1 p.2
def nx (p : List UInt8 × Bool) : List UInt8 × Bool := (cutRest p.1 p.2 8, cutBad p.1 p.2 8)
def tOut (p : List UInt8 × Bool) (m : Int) : List UInt8 := textOut p.1 p.2 m
def tNx (p : List UInt8 × Bool) (m : Int) : List UInt8 × Bool := (textRest p.1 p.2 m, textBad p.1 p.2 m)
/-- what is taken up as a coin -/
def takC (p : List UInt8 × Bool) : Co := ⟨tOut p 128, nm (tNx p 128), tOut (nx (tNx p 128)) 32, tOut (tNx (nx (tNx p 128)) 32) 32⟩
def takR (p : List UInt8 × Bool) : List UInt8 × Bool := tNx (tNx (nx (tNx p 128)) 32) 32
def okTk (p : List UInt8 × Bool) : Bool := (!(takR p).2 && (takR p).1.isEmpty) && rightC (takC p)
def noC : Co := ⟨[], 0, [], []⟩
def tkO (p : List UInt8 × Bool) : Co := if okTk p then takC p else noC
def tkE (p : List UInt8 × Bool) : Int := if okTk p then 0 else 190
theorem rnum_p (b : Nat) (p : List UInt8 × Bool) (w : World) (h : Rd w b p.1 p.2) :
    Calls Try.prog 81 #[.pointer (some ⟨b, 0, none⟩)] w fun e w' => ∃ n q, Hid (n = nm p ∧ q = nx p) ∧ e = .returned (.int .u64 (n : Nat)) ∧ Rd w' b q.1 q.2 ∧ Keeps (fun k => k = b) w w' :=
  (rnum_any b p.1 p.2 w h).mono fun _ _ ⟨h1, h2, h3⟩ => ⟨_, _, ⟨rfl, rfl⟩, h1, h2, h3⟩
theorem rtext_p (b : Nat) (p : List UInt8 × Bool) (m : Int) (w : World) (h : Rd w b p.1 p.2) :
    Calls Try.prog 80 #[.pointer (some ⟨b, 0, none⟩), .int .i64 m] w fun e w' => ∃ s q, Hid (s = tOut p m ∧ q = tNx p m) ∧ e = .returned (.string ⟨s.toArray⟩) ∧ Rd w' b q.1 q.2 ∧ Keeps (fun k => k = b) w w' :=
  (rtext_any b p.1 p.2 m w h).mono fun _ _ ⟨h1, h2, h3⟩ => ⟨_, _, ⟨rfl, rfl⟩, h1, h2, h3⟩
theorem rnum2_p (b : Nat) (p : List UInt8 × Bool) (w : World) (h : Rd2 w b p.1 p.2) :
    Calls Try.prog 85 #[.pointer (some ⟨b, 0, none⟩)] w fun e w' => ∃ n q, Hid (n = nm p ∧ q = nx p) ∧ e = .returned (.int .u64 (n : Nat)) ∧ Rd2 w' b q.1 q.2 ∧ Keeps (fun k => k = b) w w' :=
  (rnum2_any b p.1 p.2 w h).mono fun _ _ ⟨h1, h2, h3⟩ => ⟨_, _, ⟨rfl, rfl⟩, h1, h2, h3⟩
theorem rtext2_p (b : Nat) (p : List UInt8 × Bool) (m : Int) (w : World) (h : Rd2 w b p.1 p.2) :
    Calls Try.prog 84 #[.pointer (some ⟨b, 0, none⟩), .int .i64 m] w fun e w' => ∃ s q, Hid (s = tOut p m ∧ q = tNx p m) ∧ e = .returned (.string ⟨s.toArray⟩) ∧ Rd2 w' b q.1 q.2 ∧ Keeps (fun k => k = b) w w' :=
  (rtext2_any b p.1 p.2 m w h).mono fun _ _ ⟨h1, h2, h3⟩ => ⟨_, _, ⟨rfl, rfl⟩, h1, h2, h3⟩
theorem tk_of {p p1 p2 p3 p4 : List UInt8 × Bool} {s0 s2 s3 : List UInt8} {n1 : Nat} (h0 : Hid (s0 = tOut p 128 ∧ p1 = tNx p 128)) (h1 : Hid (n1 = nm p1 ∧ p2 = nx p1)) (h2 : Hid (s2 = tOut p2 32 ∧ p3 = tNx p2 32)) (h3 : Hid (s3 = tOut p3 32 ∧ p4 = tNx p3 32)) :
    tkO p = (if (!p4.2 && p4.1.isEmpty) && rightC ⟨s0, n1, s2, s3⟩ then ⟨s0, n1, s2, s3⟩ else noC) ∧ tkE p = (if (!p4.2 && p4.1.isEmpty) && rightC ⟨s0, n1, s2, s3⟩ then 0 else 190) := by
  obtain ⟨rfl, rfl⟩ := h0.out
  obtain ⟨rfl, rfl⟩ := h1.out
  obtain ⟨rfl, rfl⟩ := h2.out
  obtain ⟨rfl, rfl⟩ := h3.out
  exact ⟨rfl, rfl⟩
theorem st4 {w W : World} {a : Nat} {c0 c1 c2 c3 x0 x1 x2 x3 : Value} {T : TypeId} (h : w.heap[a]? = some (.cells #[c0, c1, c2, c3] T (0, 0)))
    (hW : World.setCell (World.setCell (World.setCell (World.setCell w ⟨a, 0, none⟩ x0) ⟨a, 1, none⟩ x1) ⟨a, 2, none⟩ x2) ⟨a, 3, none⟩ x3 = W) :
    W.heap[a]? = some (.cells #[x0, x1, x2, x3] T (0, 0)) := by
  rw [← hW]
  exact (heap_setCell_blk (heap_setCell_blk (heap_setCell_blk (heap_setCell_blk h 0 _) 1 _) 2 _) 3 _).trans (by simp)
theorem st4_new {w0 w W : World} {a : Nat} {x0 x1 x2 x3 : Value} (h : New w0 w) (ha : w0.heap.size ≤ a)
    (hW : World.setCell (World.setCell (World.setCell (World.setCell w ⟨a, 0, none⟩ x0) ⟨a, 1, none⟩ x1) ⟨a, 2, none⟩ x2) ⟨a, 3, none⟩ x3 = W) : New w0 W := by
  rw [← hW]
  exact (((h.set ha 0 x0).set ha 1 x1).set ha 2 x2).set ha 3 x3
theorem cells4 {w : World} {b : Nat} {c0 c1 c2 c3 : Value} {T : TypeId} (h : w.heap[b]? = some (.cells #[c0, c1, c2, c3] T (0, 0))) :
    (w.cell? ⟨b, 0, none⟩ = some c0 ∧ w.cell? ⟨b, 1, none⟩ = some c1 ∧ w.cell? ⟨b, 2, none⟩ = some c2 ∧ w.cell? ⟨b, 3, none⟩ = some c3) ∧ w.frozen? ⟨b, 0, none⟩ = false ∧ w.frozen? ⟨b, 1, none⟩ = false ∧ w.frozen? ⟨b, 2, none⟩ = false ∧ w.frozen? ⟨b, 3, none⟩ = false := by
  refine ⟨⟨?_, ?_, ?_, ?_⟩, frozen_blk h 0, frozen_blk h 1, frozen_blk h 2, frozen_blk h 3⟩ <;> rw [cell_blk h] <;> rfl
theorem far_blk {w : World} {a b : Nat} {o : Obj} (h : w.heap[b]? = some o) (hab : b ≠ a) (i : Nat) (x : Value) : (w.setCell ⟨a, i, none⟩ x).heap[b]? = some o :=
  (Below.heap_setCell w ⟨a, i, none⟩ x b hab).trans h
/-- four cells of a coin -/
def c4 (w : World) (q : Nat) (x0 x1 x2 x3 : Value) : Prop := w.heap[q]? = some (.cells #[x0, x1, x2, x3] 41 (0, 0))
theorem c4.set1 {w : World} {q : Nat} {x0 x1 x2 x3 : Value} (h : c4 w q x0 x1 x2 x3) (u : Value) : c4 (w.setCell ⟨q, 1, none⟩ u) q x0 u x2 x3 := (heap_setCell_blk h 1 u).trans (by simp)
theorem c4.set0 {w : World} {q : Nat} {x0 x1 x2 x3 : Value} (h : c4 w q x0 x1 x2 x3) (u : Value) : c4 (w.setCell ⟨q, 0, none⟩ u) q u x1 x2 x3 := (heap_setCell_blk h 0 u).trans (by simp)
theorem c4.set2 {w : World} {q : Nat} {x0 x1 x2 x3 : Value} (h : c4 w q x0 x1 x2 x3) (u : Value) : c4 (w.setCell ⟨q, 2, none⟩ u) q x0 x1 u x3 := (heap_setCell_blk h 2 u).trans (by simp)
theorem c4.set3 {w : World} {q : Nat} {x0 x1 x2 x3 : Value} (h : c4 w q x0 x1 x2 x3) (u : Value) : c4 (w.setCell ⟨q, 3, none⟩ u) q x0 x1 x2 u := (heap_setCell_blk h 3 u).trans (by simp)
theorem c4.far {w : World} {q a : Nat} {x0 x1 x2 x3 : Value} (h : c4 w q x0 x1 x2 x3) (hq : q ≠ a) (i : Nat) (u : Value) : c4 (w.setCell ⟨a, i, none⟩ u) q x0 x1 x2 x3 := far_blk h hq i u
theorem c4.keepB {w w' : World} {q b : Nat} {x0 x1 x2 x3 : Value} (h : c4 w q x0 x1 x2 x3) (k : Keeps (fun k => k = b) w w') (hq : q ≠ b) : c4 w' q x0 x1 x2 x3 := k.kept h hq
set_option maxHeartbeats 4000000 in
set_option maxRecDepth 100000 in
theorem cTake (p : List UInt8 × Bool) (hp : p.2 = false) (w : World) :
    Calls Try.prog 43 #[.string ⟨p.1.toArray⟩] w fun e w' => e = .returned (.tuple #[.agg #[.string ⟨(tkO p).den.toArray⟩, .int .u64 (tkO p).amt, .string ⟨(tkO p).fr.toArray⟩, .string ⟨(tkO p).to.toArray⟩], .int .i64 (tkE p)]) ∧ New w w' := by
  have hnr := newReader_any p.1
  rw [← hp] at hnr
  clear hp
  go_enter Try.func43, Try.ntmps43
  go_wp2_with fail
  have b0 : c4 (w.alloc (.cells #[.string ⟨#[]⟩, .int .u64 0, .string ⟨#[]⟩, .string ⟨#[]⟩] 41)) w.heap.size (.string ⟨#[]⟩) (.int .u64 0) (.string ⟨#[]⟩) (.string ⟨#[]⟩) := heap_alloc_new w _
  refine (hnr _).mono ?_
  rintro e w1 ⟨rfl, r1, k1⟩
  have b1 : c4 w1 w.heap.size (.string ⟨#[]⟩) (.int .u64 0) (.string ⟨#[]⟩) (.string ⟨#[]⟩) := k1.kept b0 (fun h => h)
  have n1 := ((New.refl w).alloc _).then k1 (fun _ h => h.elim)
  rw [World.size_alloc] at *
  generalize hA : w.heap.size = A at *
  have hA0 : w.heap.size ≤ A := by omega
  clear hA
  generalize hB : A + 1 = B at *
  have hAB : A ≠ B := by omega
  have hB0 : w.heap.size ≤ B := by omega
  clear hB b0 k1 hnr
  go_wp2_with fail
  refine (rtext_p B p 128 w1 r1).mono ?_
  rintro e w2 ⟨s0, p1, h0, rfl, r2, k2⟩
  have b2 := b1.keepB k2 hAB
  have n2 := n1.then k2 (fun j hj => .inr (by subst hj; exact hB0))
  clear b1 n1 r1 k2
  go_upto_region 3 with (fail)
  have m2 : New w2 (w2.alloc (.cells #[.string ⟨s0.toArray⟩, .int .u64 0, .string ⟨#[]⟩, .string ⟨#[]⟩] 41)) := (New.refl w2).alloc _
  have q2 : c4 (w2.alloc (.cells #[.string ⟨s0.toArray⟩, .int .u64 0, .string ⟨#[]⟩, .string ⟨#[]⟩] 41)) w2.heap.size (.string ⟨s0.toArray⟩) (.int .u64 0) (.string ⟨#[]⟩) (.string ⟨#[]⟩) := heap_alloc_new w2 _
  have b3 : c4 (w2.alloc (.cells #[.string ⟨s0.toArray⟩, .int .u64 0, .string ⟨#[]⟩, .string ⟨#[]⟩] 41)) A (.string ⟨#[]⟩) (.int .u64 0) (.string ⟨#[]⟩) (.string ⟨#[]⟩) := m2.kept b2 (fun h => h)
  have r3 : Rd (w2.alloc (.cells #[.string ⟨s0.toArray⟩, .int .u64 0, .string ⟨#[]⟩, .string ⟨#[]⟩] 41)) B p1.1 p1.2 := m2.kept r2 (fun h => h)
  have n3 := n2.then m2 (fun _ h => h.elim)
  have hAQ : A ≠ w2.heap.size := by have := (Array.getElem?_eq_some_iff.1 b2).1; omega
  have hBQ : B ≠ w2.heap.size := by have := (Array.getElem?_eq_some_iff.1 r2).1; omega
  have hQ0 := n2.size
  clear m2 b2 r2 n2
  generalize World.alloc w2 _ = w3 at *
  generalize w2.heap.size = Q at *
  clear w2
  go_wp2_with fail
  refine (rnum_p B p1 w3 r3).mono ?_
  rintro e w4 ⟨n1, p2, h1, rfl, r4, k4⟩
  have b4 := b3.keepB k4 hAB
  have q4 := q2.keepB k4 (Ne.symm hBQ)
  have n4 := n3.then k4 (fun j hj => .inr (by subst hj; exact hB0))
  clear b3 q2 r3 n3 k4
  have d4 := cells4 q4
  go_upto_region 4 with (fail)
  have b5 := b4.far hAQ 1 (.int .u64 (n1 : Nat))
  have q5 := q4.set1 (.int .u64 (n1 : Nat))
  have r5 : Rd (w4.setCell ⟨Q, 1, none⟩ (.int .u64 (n1 : Nat))) B p2.1 p2.2 := far_blk r4 hBQ 1 _
  have n5 := n4.set hQ0 1 (.int .u64 (n1 : Nat))
  clear b4 q4 r4 n4 d4
  generalize World.setCell w4 _ _ = w5 at *
  go_wp2_with fail
  refine (rtext_p B p2 32 w5 r5).mono ?_
  rintro e w6 ⟨s2, p3, h2, rfl, r6, k6⟩
  have b6 := b5.keepB k6 hAB
  have q6 := q5.keepB k6 (Ne.symm hBQ)
  have n6 := n5.then k6 (fun j hj => .inr (by subst hj; exact hB0))
  clear b5 q5 r5 n5 k6
  go_wp2_with fail
  refine (rtext_p B p3 32 w6 r6).mono ?_
  rintro e w7 ⟨s3, p4, h3, rfl, r7, k7⟩
  have b7 := b6.keepB k7 hAB
  have q7 := q6.keepB k7 (Ne.symm hBQ)
  have n7 := n6.then k7 (fun j hj => .inr (by subst hj; exact hB0))
  clear b6 q6 r6 n6 k7
  have d7 := cells4 q7
  have HK := Lib.hid (tk_of h0 h1 h2 h3)
  clear h0 h1 h2 h3
  go_upto_region 5 with (fail)
  have b8 := (b7.far hAQ 2 (.string ⟨s2.toArray⟩)).far hAQ 3 (.string ⟨s3.toArray⟩)
  have q8 := (q7.set2 (.string ⟨s2.toArray⟩)).set3 (.string ⟨s3.toArray⟩)
  have r8 : Rd ((w7.setCell ⟨Q, 2, none⟩ (.string ⟨s2.toArray⟩)).setCell ⟨Q, 3, none⟩ (.string ⟨s3.toArray⟩)) B p4.1 p4.2 := far_blk (far_blk r7 hBQ 2 _) hBQ 3 _
  have n8 := (n7.set hQ0 2 (.string ⟨s2.toArray⟩)).set hQ0 3 (.string ⟨s3.toArray⟩)
  clear b7 q7 r7 n7 d7
  generalize World.setCell (World.setCell w7 _ _) _ _ = w8 at *
  clear w7
  obtain ⟨l4, bad4⟩ := p4
  go_wp2_with fail
  refine (end_any B l4 bad4 w8 r8).mono ?_
  rintro e w' ⟨rfl, rfl⟩
  have d8 := cells4 q8
  have d8a := cells4 b8
  rcases hend : (!bad4 && l4.isEmpty) with _ | _
  · have HO : Hid (tkO p = noC ∧ tkE p = 190) := by rw [Hid, HK.out.1, HK.out.2, hend]; exact ⟨rfl, rfl⟩
    clear HK hend
    go_wp2_with fail
    generalize hW : World.setCell (World.setCell (World.setCell (World.setCell w8 _ _) _ _) _ _) _ _ = W
    have kW := st4_new n8 hA0 hW
    have bW := cells4 (st4 b8 hW)
    clear hW d8 d8a b8 q8 r8 n8
    exact bodyPost_ret (v := .tuple #[.agg #[.string ⟨#[]⟩, .int .u64 0, .string ⟨#[]⟩, .string ⟨#[]⟩], .int .i64 190]) (by simp [results, Try.results43, go_sem, bW]) rfl ⟨by rw [HO.out.1, HO.out.2]; rfl, kW⟩
  · have HK2 : Hid (tkO p = (if rightC ⟨s0, n1, s2, s3⟩ then ⟨s0, n1, s2, s3⟩ else noC) ∧ tkE p = (if rightC ⟨s0, n1, s2, s3⟩ then 0 else 190)) := by rw [Hid, HK.out.1, HK.out.2, hend]; exact ⟨rfl, rfl⟩
    have R : ∀ w, Calls Try.prog 70 #[.agg #[.string ⟨s0.toArray⟩, .int .u64 (n1 : Nat), .string ⟨s2.toArray⟩, .string ⟨s3.toArray⟩]] w fun e w' => e = .returned (.bool (rightC ⟨s0, n1, s2, s3⟩)) ∧ New w w' := fun w => right_any ⟨s0, n1, s2, s3⟩ w
    clear HK hend
    rcases hr : rightC ⟨s0, n1, s2, s3⟩ with _ | _
    · have HO : Hid (tkO p = noC ∧ tkE p = 190) := by rw [Hid, HK2.out.1, HK2.out.2, hr]; exact ⟨rfl, rfl⟩
      rw [hr] at R
      clear HK2 hr
      go_wp2_with fail
      refine (R _).mono ?_
      rintro e w9 ⟨rfl, k9⟩
      have b9 : c4 w9 A (.string ⟨#[]⟩) (.int .u64 0) (.string ⟨#[]⟩) (.string ⟨#[]⟩) := k9.kept b8 (fun h => h)
      have n9 := n8.then k9 (fun _ h => h.elim)
      clear d8 d8a b8 q8 r8 n8 k9
      have d9 := cells4 b9
      go_wp2_with fail
      generalize hW : World.setCell (World.setCell (World.setCell (World.setCell w9 _ _) _ _) _ _) _ _ = W
      have kW := st4_new n9 hA0 hW
      have bW := cells4 (st4 b9 hW)
      clear hW d9 b9 n9
      exact bodyPost_ret (v := .tuple #[.agg #[.string ⟨#[]⟩, .int .u64 0, .string ⟨#[]⟩, .string ⟨#[]⟩], .int .i64 190]) (by simp [results, Try.results43, go_sem, bW]) rfl ⟨by rw [HO.out.1, HO.out.2]; rfl, kW⟩
    · have HO : Hid (tkO p = ⟨s0, n1, s2, s3⟩ ∧ tkE p = 0) := by rw [Hid, HK2.out.1, HK2.out.2, hr]; exact ⟨rfl, rfl⟩
      rw [hr] at R
      clear HK2 hr
      go_wp2_with fail
      refine (R _).mono ?_
      rintro e w9 ⟨rfl, k9⟩
      have b9 : c4 w9 A (.string ⟨#[]⟩) (.int .u64 0) (.string ⟨#[]⟩) (.string ⟨#[]⟩) := k9.kept b8 (fun h => h)
      have q9 : c4 w9 Q (.string ⟨s0.toArray⟩) (.int .u64 (n1 : Nat)) (.string ⟨s2.toArray⟩) (.string ⟨s3.toArray⟩) := k9.kept q8 (fun h => h)
      have n9 := n8.then k9 (fun _ h => h.elim)
      clear d8 d8a b8 q8 r8 n8 k9
      have d9 := cells4 b9
      have d9a := cells4 q9
      go_wp2_with fail
      generalize hW : World.setCell (World.setCell (World.setCell (World.setCell w9 _ _) _ _) _ _) _ _ = W
      have kW := st4_new n9 hA0 hW
      have bW := cells4 (st4 b9 hW)
      clear hW d9 d9a b9 q9 n9
      exact bodyPost_ret (v := .tuple #[.agg #[.string ⟨s0.toArray⟩, .int .u64 (n1 : Nat), .string ⟨s2.toArray⟩, .string ⟨s3.toArray⟩], .int .i64 0]) (by simp [results, Try.results43, go_sem, bW]) rfl ⟨by rw [HO.out.1, HO.out.2], kW⟩
end Go.Proofs.Ytcldbipipehedaa
