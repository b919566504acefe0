/-
  WALKS: link.right, Lay, Take.
-/
import Derived.Test.YtclldibadmnppaaLnk1
import Derived.BigQuiet
import Derived.Deep.QuietTactic
import Derived.WalkLawsBesides
namespace Go.Proofs.Ytclldibadmnppaa
open Go.RowKit

theorem New.refl (w : World) : New w w := Keeps.refl _ w
/-- an end may be -/
def okL (st : Int) (pe : Nat) : Bool := if st = 1 then decide (pe = 0) else decide (st = 2) || decide (st = 3)

theorem right_any (st : Int) (cl pe pc : Nat) (w : World) :
    Calls Try.prog 63 #[.agg #[.int .i64 st, .int .u64 cl, .int .u64 pe, .int .u64 pc]] w fun e w' => e = .returned (.bool (okL st pe)) ∧ New w w' := by
  by_cases h1 : st = 1
  · subst h1
    go_enter Try.func63, Try.ntmps63
    go_wp2
    go_ret
    exact ⟨ret_bool (by rcases pe with _ | n <;> simp [okL]; omega), New.of_below (by go_grown)⟩
  · by_cases h2 : st = 2
    · subst h2
      go_enter Try.func63, Try.ntmps63
      go_wp2
      go_ret
      exact ⟨rfl, New.of_below (by go_grown)⟩
    · by_cases h3 : st = 3
      · subst h3
        go_enter Try.func63, Try.ntmps63
        go_wp2
        go_ret
        exact ⟨rfl, New.of_below (by go_grown)⟩
      · have e : okL st pe = false := by simp [okL, h1, h2, h3]
        have E := Lib.hid e
        clear e
        have e1 : (st == 1) = false := by simp [h1]
        have e2 : (st == 2) = false := by simp [h2]
        have e3 : (st == 3) = false := by simp [h3]
        clear h1 h2 h3
        go_enter Try.func63, Try.ntmps63
        go_wp2
        go_ret
        exact ⟨by rw [E.out]; rfl, New.of_below (by go_grown)⟩

/-- numbers, laid -/
def flat (l : List Nat) : List UInt8 := l.flatMap (be 8)
theorem flat_append (a b : List Nat) : flat (a ++ b) = flat a ++ flat b := by simp [flat]
theorem flat_one (a : Nat) : flat [a] = be 8 a := by simp [flat]
theorem flat_length (l : List Nat) : (flat l).length = 8 * l.length := by
  induction l with
  | nil => rfl
  | cons a l ih => rw [show a :: l = [a] ++ l from rfl, flat_append, flat_one, List.length_append, List.length_append, be_length, ih]; simp; omega

set_option maxHeartbeats 2000000 in
theorem lay_ok (st cl pe pc : Nat) (hst : st ≤ 3) (ok : okL st pe = true) (w : World) :
    Calls Try.prog 46 #[.agg #[.int .i64 st, .int .u64 cl, .int .u64 pe, .int .u64 pc]] w fun e w' => e = .returned (.tuple #[.string ⟨(flat [st, cl, pe, pc]).toArray⟩, .int .i64 0]) ∧ New w w' := by
  have hwr : IntKind.u64.wrap (st : Int) = st := IntWalk.u64_in _ ⟨by omega, by omega⟩
  have hR := right_any st cl pe pc
  rw [ok] at hR
  clear ok hst
  obtain ⟨ns, hns⟩ : ∃ ns, ns = [st, cl, pe, pc] := ⟨_, rfl⟩
  rw [← hns]
  have HNS := Lib.hid hns
  clear hns
  go_enter Try.func46, Try.ntmps46
  go_wp2_with fail
  refine (hR _).mono ?_
  rintro e w1 ⟨rfl, k1⟩
  have b1 := k1.kept (heap_alloc_new w _) (fun h => h)
  have k1 := ((New.refl w).alloc _).then k1 (fun _ h => h.elim)
  have d1 := cells4 b1
  have hlt1 : w.heap.size < w1.heap.size := (Array.getElem?_eq_some_iff.1 b1).1
  generalize hA : w.heap.size = A at *
  have hA0 : w.heap.size ≤ A := by omega
  clear hA
  go_wp2_with fail
  refine (newWriter_any _).mono ?_
  rintro e w2 ⟨rfl, hw2, k2⟩
  have b2 := k2.kept b1 (fun h => h)
  have d2 := cells4 b2
  have k3 := k1.then k2 (fun _ h => h.elim)
  have hs2 := k2.size
  have hlt := hw2.lt
  generalize w1.heap.size = B at *
  clear b1 d1 k1 k2
  go_wp2_with fail
  generalize hC : w2.heap.size = C at *
  generalize hW : w2.alloc _ = W
  have bC : W.heap[C]? = some (.cells #[.int .u64 (ns.getD 0 0), .int .u64 (ns.getD 1 0), .int .u64 (ns.getD 2 0), .int .u64 (ns.getD 3 0)] 34 (0, 0)) := by
    rw [← hW, ← hC, HNS.out]; exact heap_alloc_new w2 _
  have kW : New w W := by rw [← hW]; exact k3.alloc _
  have hWr : Wr W B (.slice none 0 0) [] := by
    rw [← hW]
    exact ⟨((New.refl w2).alloc _).kept hw2.blk (fun h => h), World.ownsRow_nil _ _ _ _, hw2.ne⟩
  have hlt2 : B < C := by omega
  have hBw : w.heap.size ≤ B := by omega
  have hCw : w.heap.size ≤ C := by omega
  clear hW hC k3 d2 b2 hw2 hs2 hlt hlt1 hwr
  have h4 : ns.length = 4 := by rw [HNS.out]; rfl
  have hfl : ns = ns.take 4 := by rw [HNS.out]; rfl
  have HFL := Lib.hid hfl
  clear hfl HNS
  go_loopw [22] (fun i wr => ∃ (k : Nat) (v : Value), k ≤ 4 ∧ i = .int .i64 k ∧ Wr wr B v (flat (ns.take k)) ∧ New w wr ∧ (∀ g, v.ownBlock = some g → w.heap.size ≤ g ∧ g ≠ C) ∧
      wr.heap[C]? = some (.cells #[.int .u64 (ns.getD 0 0), .int .u64 (ns.getD 1 0), .int .u64 (ns.getD 2 0), .int .u64 (ns.getD 3 0)] 34 (0, 0)))
    (fun i _ => 4 - (intOf i).toNat)
  case atStart => exact ⟨0, _, Nat.zero_le _, rfl, hWr, kW, (by intro g hg; simp [Value.ownBlock] at hg), bC⟩
  case round =>
    clear hWr kW bC
    obtain ⟨k, v, hk, rfl, hw, kw, hv, bC⟩ := hrel
    by_cases hlt : k < 4
    · have hnext : flat (ns.take (k + 1)) = flat (ns.take k) ++ be 8 (ns.getD k 0) := by
        rw [List.take_succ_eq_append_getElem (by omega), flat_append, flat_one]
        simp [List.getD, show k < ns.length by omega]
      have c0 : wr.cell? ⟨C, k, none⟩ = some (.int .u64 (ns.getD k 0)) := by
        rw [cell_blk bC]
        match k, hlt with
        | 0, _ => rfl
        | 1, _ => rfl
        | 2, _ => rfl
        | 3, _ => rfl
      have hbound : (flat (ns.take k)).length + 8 ≤ 140737488355328 := by rw [flat_length, List.length_take]; omega
      have HN := Lib.hid hnext
      clear hnext
      generalize ns.getD k 0 = n at *
      have HC := Lib.hid bC
      clear bC
      have hCl : C < wr.heap.size := (Array.getElem?_eq_some_iff.1 HC.out).1
      go_wp2_with fail
      refine (num_any B v (flat (ns.take k)) n wr hbound hw).mono ?_
      rintro e w2 ⟨rfl, v2, hw2, k2, m2⟩
      have hf : ∀ j, Wrs B v j → w.heap.size ≤ j ∧ j ≠ C := by
        rintro j (rfl | e)
        · exact ⟨hBw, by omega⟩
        · exact hv j e.symm
      have k3 : New w w2 := kw.then k2 (fun j hj => .inr (hf j hj).1)
      have b2 := k2.kept HC.out (fun hj => (hf C hj).2 rfl)
      have hv2 : ∀ g, v2.ownBlock = some g → w.heap.size ≤ g ∧ g ≠ C := by
        intro g hg
        rcases m2 with e | ⟨g', e, h1, h2⟩
        · exact hv g (e ▸ hg)
        · rw [e] at hg; cases hg
          exact ⟨Nat.le_trans kw.size h1, by omega⟩
      have HF : Hid (New w w2 ∧ (∀ g, v2.ownBlock = some g → w.heap.size ≤ g ∧ g ≠ C) ∧ w2.heap[C]? = some (.cells #[.int .u64 (ns.getD 0 0), .int .u64 (ns.getD 1 0), .int .u64 (ns.getD 2 0), .int .u64 (ns.getD 3 0)] 34 (0, 0))) := ⟨k3, hv2, b2⟩
      clear k3 b2 hv2 hf
      go_wp2_with fail
      go_roundw
      case rel => exact ⟨k + 1, v2, by omega, by go_num, by rw [HN.out]; exact hw2, HF.out.1, HF.out.2⟩
      case measure => simp [intOf]; omega
    · obtain rfl : k = 4 := by omega
      clear bC
      go_wp2_with fail
      refine (bytes_any B v _ wr hw).mono ?_
      rintro e w2 ⟨rfl, k2⟩
      go_wp2_with fail
      go_returns
      exact ⟨by rw [← HFL.out]; rfl, kw.then k2 (fun _ h => h.elim)⟩

set_option maxHeartbeats 2000000 in
theorem lay_no (st : Int) (cl pe pc : Nat) (ok : okL st pe = false) (w : World) :
    Calls Try.prog 46 #[.agg #[.int .i64 st, .int .u64 cl, .int .u64 pe, .int .u64 pc]] w fun e w' => e = .returned (.tuple #[.string ⟨#[]⟩, .int .i64 171]) ∧ New w w' := by
  have hR := right_any st cl pe pc
  rw [ok] at hR
  clear ok
  go_enter Try.func46, Try.ntmps46
  go_wp2_with fail
  refine (hR _).mono ?_
  rintro e w1 ⟨rfl, k1⟩
  have k1 := ((New.refl w).alloc _).then k1 (fun _ h => h.elim)
  go_wp2_with fail
  go_returns
  exact ⟨rfl, k1⟩

/-- a Reader's number, and the Reader behind it -/
def nm (p : List UInt8 × Bool) : Nat := numOut p.1 p.2
def nx (p : List UInt8 × Bool) : List UInt8 × Bool := (cutRest p.1 p.2 8, cutBad p.1 p.2 8)
def okT (p : List UInt8 × Bool) : Bool := (!(nx (nx (nx (nx p)))).2 && (nx (nx (nx (nx p)))).1.isEmpty) && okL (nm p : Int) (nm (nx (nx p)))
def outT (p : List UInt8 × Bool) : Value :=
  if okT p then .tuple #[.agg #[.int .i64 (nm p), .int .u64 (nm (nx p)), .int .u64 (nm (nx (nx p))), .int .u64 (nm (nx (nx (nx p))))], .int .i64 0]
  else .tuple #[.agg #[.int .i64 0, .int .u64 0, .int .u64 0, .int .u64 0], .int .i64 171]
theorem rnum_p (b : Nat) (p : List UInt8 × Bool) (w : World) (h : Rd w b p.1 p.2) :
    Calls Try.prog 32 #[.pointer (some ⟨b, 0, none⟩)] w fun e w' => ∃ n q, Hid (n = nm p ∧ q = nx p) ∧ e = .returned (.int .u64 (n : Nat)) ∧ Rd w' b q.1 q.2 ∧ Keeps (fun k => k = b) w w' :=
  (rnum_any b p.1 p.2 w h).mono fun _ _ ⟨h1, h2, h3⟩ => ⟨_, _, ⟨rfl, rfl⟩, h1, h2, h3⟩
theorem rnum2_p (b : Nat) (p : List UInt8 × Bool) (w : World) (h : Rd2 w b p.1 p.2) :
    Calls Try.prog 33 #[.pointer (some ⟨b, 0, none⟩)] w fun e w' => ∃ n q, Hid (n = nm p ∧ q = nx p) ∧ e = .returned (.int .u64 (n : Nat)) ∧ Rd2 w' b q.1 q.2 ∧ Keeps (fun k => k = b) w w' :=
  (rnum2_any b p.1 p.2 w h).mono fun _ _ ⟨h1, h2, h3⟩ => ⟨_, _, ⟨rfl, rfl⟩, h1, h2, h3⟩
theorem okT_of {p p1 p2 p3 p4 : List UInt8 × Bool} {n0 n1 n2 n3 : Nat} (h0 : Hid (n0 = nm p ∧ p1 = nx p)) (h1 : Hid (n1 = nm p1 ∧ p2 = nx p1)) (h2 : Hid (n2 = nm p2 ∧ p3 = nx p2)) (h3 : Hid (n3 = nm p3 ∧ p4 = nx p3)) :
    outT p = if (!p4.2 && p4.1.isEmpty) && okL (n0 : Int) n2 then .tuple #[.agg #[.int .i64 n0, .int .u64 n1, .int .u64 n2, .int .u64 n3], .int .i64 0]
  else .tuple #[.agg #[.int .i64 0, .int .u64 0, .int .u64 0, .int .u64 0], .int .i64 171] := by
  obtain ⟨rfl, rfl⟩ := h0.out
  obtain ⟨rfl, rfl⟩ := h1.out
  obtain ⟨rfl, rfl⟩ := h2.out
  obtain ⟨rfl, rfl⟩ := h3.out
  rfl
theorem st4 {w W : World} {a : Nat} {c0 c1 c2 c3 x0 x1 x2 x3 : Value} {T : TypeId} (h : w.heap[a]? = some (.cells #[c0, c1, c2, c3] T (0, 0)))
    (hW : World.setCell (World.setCell (World.setCell (World.setCell w ⟨a, 0, none⟩ x0) ⟨a, 1, none⟩ x1) ⟨a, 2, none⟩ x2) ⟨a, 3, none⟩ x3 = W) :
    W.heap[a]? = some (.cells #[x0, x1, x2, x3] T (0, 0)) := by
  rw [← hW]
  exact (heap_setCell_blk (heap_setCell_blk (heap_setCell_blk (heap_setCell_blk h 0 _) 1 _) 2 _) 3 _).trans (by simp)
theorem st4_new {w0 w W : World} {a : Nat} {x0 x1 x2 x3 : Value} (h : New w0 w) (ha : w0.heap.size ≤ a)
    (hW : World.setCell (World.setCell (World.setCell (World.setCell w ⟨a, 0, none⟩ x0) ⟨a, 1, none⟩ x1) ⟨a, 2, none⟩ x2) ⟨a, 3, none⟩ x3 = W) : New w0 W := by
  rw [← hW]
  exact (((h.set ha 0 x0).set ha 1 x1).set ha 2 x2).set ha 3 x3
theorem okL_big {n pe : Nat} (h : ¬ n ≤ 3) : okL (n : Int) pe = false := by
  unfold okL
  rw [if_neg (by omega)]
  simp; omega

set_option maxHeartbeats 2000000 in
theorem take_any (p : List UInt8 × Bool) (hp : p.2 = false) (w : World) :
    Calls Try.prog 48 #[.string ⟨p.1.toArray⟩] w fun e w' => e = .returned (outT p) ∧ New w w' := by
  obtain ⟨out, hout⟩ : ∃ o, o = outT p := ⟨_, rfl⟩
  rw [← hout]
  have HO := Lib.hid hout
  clear hout
  have hnr := newReader_any p.1
  rw [← hp] at hnr
  clear hp
  go_enter Try.func48, Try.ntmps48
  go_wp2_with fail
  refine (hnr _).mono ?_
  rintro e w1 ⟨rfl, r1, k1⟩
  have b1 := k1.kept (heap_alloc_new w _) (fun h => h)
  have k1 := ((New.refl w).alloc _).then k1 (fun _ h => h.elim)
  have hlt1 : w.heap.size < w1.heap.size := (Array.getElem?_eq_some_iff.1 b1).1
  rw [World.size_alloc] at *
  generalize hA : w.heap.size = A at *
  have hA0 : w.heap.size ≤ A := by omega
  clear hA
  generalize hB : A + 1 = B at *
  have hAB : A ≠ B := by omega
  have hB0 : w.heap.size ≤ B := by omega
  clear hB
  go_wp2_with fail
  refine (rnum_p B p w1 r1).mono ?_
  rintro e w2 ⟨n0, p1, h0, rfl, r2, k2⟩
  have b2 := k2.kept b1 hAB
  have k2 := k1.then k2 (fun j hj => .inr (by subst hj; exact hB0))
  clear b1 k1 r1
  go_wp2_with fail
  refine (rnum_p B p1 w2 r2).mono ?_
  rintro e w3 ⟨n1, p2, h1, rfl, r3, k3⟩
  have b3 := k3.kept b2 hAB
  have k3 := k2.then k3 (fun j hj => .inr (by subst hj; exact hB0))
  clear b2 k2 r2
  go_wp2_with fail
  refine (rnum_p B p2 w3 r3).mono ?_
  rintro e w4 ⟨n2, p3, h2, rfl, r4, k4⟩
  have b4 := k4.kept b3 hAB
  have k4 := k3.then k4 (fun j hj => .inr (by subst hj; exact hB0))
  clear b3 k3 r3
  go_wp2_with fail
  refine (rnum_p B p3 w4 r4).mono ?_
  rintro e w5 ⟨n3, p4, h3, rfl, r5, k5⟩
  have b5 := k5.kept b4 hAB
  have k5 := k4.then k5 (fun j hj => .inr (by subst hj; exact hB0))
  clear b4 k4 r4
  have HO2 : Hid (out = if (!p4.2 && p4.1.isEmpty) && okL (n0 : Int) n2 then .tuple #[.agg #[.int .i64 n0, .int .u64 n1, .int .u64 n2, .int .u64 n3], .int .i64 0]
    else .tuple #[.agg #[.int .i64 0, .int .u64 0, .int .u64 0, .int .u64 0], .int .i64 171]) := HO.out.trans (okT_of h0 h1 h2 h3)
  clear HO h0 h1 h2 h3
  obtain ⟨l4, bad4⟩ := p4
  by_cases hs : n0 ≤ 3
  · have hwr : IntKind.i64.wrap (n0 : Int) = n0 := IntWalk.i64_in _ ⟨by omega, by omega⟩
    have ht : decide ((n0 : Int) ≤ 3) = true := by simp; omega
    go_wp2_with fail
    have r6 := ((New.refl w5).alloc (.cells #[.int .i64 n0, .int .u64 n1, .int .u64 n2, .int .u64 n3] 36)).kept r5 (fun h => h)
    have b6 := ((New.refl w5).alloc (.cells #[.int .i64 n0, .int .u64 n1, .int .u64 n2, .int .u64 n3] 36)).kept b5 (fun h => h)
    have c6 := heap_alloc_new w5 (.cells #[.int .i64 n0, .int .u64 n1, .int .u64 n2, .int .u64 n3] 36)
    have k6 := k5.alloc (.cells #[.int .i64 n0, .int .u64 n1, .int .u64 n2, .int .u64 n3] 36)
    have hAC : A ≠ w5.heap.size := by have := (Array.getElem?_eq_some_iff.1 b5).1; omega
    generalize w5.alloc (.cells #[.int .i64 n0, .int .u64 n1, .int .u64 n2, .int .u64 n3] 36) = w6 at *
    generalize w5.heap.size = C at *
    clear r5 b5 k5
    have d6 := cells4 c6
    refine (end_any B l4 bad4 w6 r6).mono ?_
    rintro e w' ⟨rfl, rfl⟩
    rcases hend : (!bad4 && l4.isEmpty) with _ | _
    · have HO3 : Hid (out = .tuple #[.agg #[.int .i64 0, .int .u64 0, .int .u64 0, .int .u64 0], .int .i64 171]) := by rw [HO2.out, hend]; rfl
      clear HO2 hend
      have d6a := cells4 b6
      go_wp2_with fail
      generalize hW : World.setCell (World.setCell (World.setCell (World.setCell w6 _ _) _ _) _ _) _ _ = W
      have kW := st4_new k6 hA0 hW
      have bW := cells4 (st4 b6 hW)
      clear hW d6 d6a b6 c6 k6 r6
      exact bodyPost_ret (v := .tuple #[.agg #[.int .i64 0, .int .u64 0, .int .u64 0, .int .u64 0], .int .i64 171]) (by simp [results, Try.results48, go_sem, bW]) rfl ⟨by rw [HO3.out], kW⟩
    · have HO3 : Hid (out = if okL (n0 : Int) n2 then .tuple #[.agg #[.int .i64 n0, .int .u64 n1, .int .u64 n2, .int .u64 n3], .int .i64 0]
          else .tuple #[.agg #[.int .i64 0, .int .u64 0, .int .u64 0, .int .u64 0], .int .i64 171]) := by rw [HO2.out, hend]; rfl
      clear HO2 hend
      have hR := right_any (n0 : Int) n1 n2 n3
      go_wp2_with fail
      refine (hR _).mono ?_
      rintro e w7 ⟨rfl, k7⟩
      have b7 := k7.kept b6 (fun h => h)
      have c7 := k7.kept c6 (fun h => h)
      have k8 := k6.then k7 (fun _ h => h.elim)
      clear d6 b6 c6 k6 k7 r6 hR
      have d7 := cells4 c7
      have d7a := cells4 b7
      rcases hok : okL (n0 : Int) n2 with _ | _
      · have HO4 : Hid (out = .tuple #[.agg #[.int .i64 0, .int .u64 0, .int .u64 0, .int .u64 0], .int .i64 171]) := by rw [HO3.out, hok]; rfl
        clear HO3 hok
        go_wp2_with fail
        generalize hW : World.setCell (World.setCell (World.setCell (World.setCell w7 _ _) _ _) _ _) _ _ = W
        have kW := st4_new k8 hA0 hW
        have bW := cells4 (st4 b7 hW)
        clear hW d7 d7a b7 c7 k8
        exact bodyPost_ret (v := .tuple #[.agg #[.int .i64 0, .int .u64 0, .int .u64 0, .int .u64 0], .int .i64 171]) (by simp [results, Try.results48, go_sem, bW]) rfl ⟨by rw [HO4.out], kW⟩
      · have HO4 : Hid (out = .tuple #[.agg #[.int .i64 n0, .int .u64 n1, .int .u64 n2, .int .u64 n3], .int .i64 0]) := by rw [HO3.out, hok]; rfl
        clear HO3 hok
        go_wp2_with fail
        generalize hW : World.setCell (World.setCell (World.setCell (World.setCell w7 _ _) _ _) _ _) _ _ = W
        have kW := st4_new k8 hA0 hW
        have bW := cells4 (st4 b7 hW)
        clear hW d7 d7a b7 c7 k8
        exact bodyPost_ret (v := .tuple #[.agg #[.int .i64 n0, .int .u64 n1, .int .u64 n2, .int .u64 n3], .int .i64 0]) (by simp [results, Try.results48, go_sem, bW]) rfl ⟨by rw [HO4.out], kW⟩
  · have ht : decide ((n0 : Int) ≤ 3) = false := by simp; omega
    go_wp2_with fail
    have r6 := ((New.refl w5).alloc (.cells #[.int .i64 0, .int .u64 n1, .int .u64 n2, .int .u64 n3] 36)).kept r5 (fun h => h)
    have b6 := ((New.refl w5).alloc (.cells #[.int .i64 0, .int .u64 n1, .int .u64 n2, .int .u64 n3] 36)).kept b5 (fun h => h)
    have c6 := heap_alloc_new w5 (.cells #[.int .i64 0, .int .u64 n1, .int .u64 n2, .int .u64 n3] 36)
    have k6 := k5.alloc (.cells #[.int .i64 0, .int .u64 n1, .int .u64 n2, .int .u64 n3] 36)
    have hAC : A ≠ w5.heap.size := by have := (Array.getElem?_eq_some_iff.1 b5).1; omega
    generalize w5.alloc (.cells #[.int .i64 0, .int .u64 n1, .int .u64 n2, .int .u64 n3] 36) = w6 at *
    generalize w5.heap.size = C at *
    clear r5 b5 k5
    have d6 := cells4 c6
    refine (end_any B l4 bad4 w6 r6).mono ?_
    rintro e w' ⟨rfl, rfl⟩
    rcases hend : (!bad4 && l4.isEmpty) with _ | _
    · have HO3 : Hid (out = .tuple #[.agg #[.int .i64 0, .int .u64 0, .int .u64 0, .int .u64 0], .int .i64 171]) := by rw [HO2.out, hend]; rfl
      clear HO2 hend
      have d6a := cells4 b6
      go_wp2_with fail
      generalize hW : World.setCell (World.setCell (World.setCell (World.setCell w6 _ _) _ _) _ _) _ _ = W
      have kW := st4_new k6 hA0 hW
      have bW := cells4 (st4 b6 hW)
      clear hW d6 d6a b6 c6 k6 r6
      exact bodyPost_ret (v := .tuple #[.agg #[.int .i64 0, .int .u64 0, .int .u64 0, .int .u64 0], .int .i64 171]) (by simp [results, Try.results48, go_sem, bW]) rfl ⟨by rw [HO3.out], kW⟩
    · have HO3 : Hid (out = if okL (0 : Int) n2 then .tuple #[.agg #[.int .i64 0, .int .u64 n1, .int .u64 n2, .int .u64 n3], .int .i64 0]
          else .tuple #[.agg #[.int .i64 0, .int .u64 0, .int .u64 0, .int .u64 0], .int .i64 171]) := by rw [HO2.out, hend]; rw [okL_big hs]; rfl
      clear HO2 hend
      have hR := right_any (0 : Int) n1 n2 n3
      go_wp2_with fail
      refine (hR _).mono ?_
      rintro e w7 ⟨rfl, k7⟩
      have b7 := k7.kept b6 (fun h => h)
      have c7 := k7.kept c6 (fun h => h)
      have k8 := k6.then k7 (fun _ h => h.elim)
      clear d6 b6 c6 k6 k7 r6 hR
      have d7 := cells4 c7
      have d7a := cells4 b7
      rcases hok : okL (0 : Int) n2 with _ | _
      · have HO4 : Hid (out = .tuple #[.agg #[.int .i64 0, .int .u64 0, .int .u64 0, .int .u64 0], .int .i64 171]) := by rw [HO3.out, hok]; rfl
        clear HO3 hok
        go_wp2_with fail
        generalize hW : World.setCell (World.setCell (World.setCell (World.setCell w7 _ _) _ _) _ _) _ _ = W
        have kW := st4_new k8 hA0 hW
        have bW := cells4 (st4 b7 hW)
        clear hW d7 d7a b7 c7 k8
        exact bodyPost_ret (v := .tuple #[.agg #[.int .i64 0, .int .u64 0, .int .u64 0, .int .u64 0], .int .i64 171]) (by simp [results, Try.results48, go_sem, bW]) rfl ⟨by rw [HO4.out], kW⟩
      · have HO4 : Hid (out = .tuple #[.agg #[.int .i64 0, .int .u64 n1, .int .u64 n2, .int .u64 n3], .int .i64 0]) := by rw [HO3.out, hok]; rfl
        clear HO3 hok
        go_wp2_with fail
        generalize hW : World.setCell (World.setCell (World.setCell (World.setCell w7 _ _) _ _) _ _) _ _ = W
        have kW := st4_new k8 hA0 hW
        have bW := cells4 (st4 b7 hW)
        clear hW d7 d7a b7 c7 k8
        exact bodyPost_ret (v := .tuple #[.agg #[.int .i64 0, .int .u64 n1, .int .u64 n2, .int .u64 n3], .int .i64 0]) (by simp [results, Try.results48, go_sem, bW]) rfl ⟨by rw [HO4.out], kW⟩
end Go.Proofs.Ytclldibadmnppaa
