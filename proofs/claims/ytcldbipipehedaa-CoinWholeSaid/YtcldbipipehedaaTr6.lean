/-
  WALKS: the document's Take of a coin.
-/
import Derived.Test.YtcldbipipehedaaTr5
namespace Go.Proofs.Ytcldbipipehedaa
open Go.RowKit
theorem numOut_u (l : List UInt8) (bad : Bool) : U64 (numOut l bad) := by
  unfold numOut
  split
  · show (0 : Nat) < _; decide
  · have h := val_lt (l.take 8)
    have h2 : 256 ^ (l.take 8).length ≤ 256 ^ 8 := Nat.pow_le_pow_right (by omega) (by rw [List.length_take]; omega)
    have h3 : (256 : Nat) ^ 8 = 2 ^ 64 := by decide
    show _ < _
    omega
set_option maxHeartbeats 4000000 in
set_option maxRecDepth 100000 in
theorem cTake2 (p : List UInt8 × Bool) (hp : p.2 = false) (w : World) :
    Calls Try.prog 44 #[.string ⟨p.1.toArray⟩] w fun e w' => e = .returned (.tuple #[.agg #[.string ⟨(tkO p).den.toArray⟩, .int .u64 (tkO p).amt, .string ⟨(tkO p).fr.toArray⟩, .string ⟨(tkO p).to.toArray⟩], .int .i64 (tkE p)]) ∧ New w w' := by
  have hnr := newReader2_any p.1
  rw [← hp] at hnr
  clear hp
  go_enter Try.func44, Try.ntmps44
  go_wp2_with fail
  have b0 : c4 (w.alloc (.cells #[.string ⟨#[]⟩, .int .u64 0, .string ⟨#[]⟩, .string ⟨#[]⟩] 41)) w.heap.size (.string ⟨#[]⟩) (.int .u64 0) (.string ⟨#[]⟩) (.string ⟨#[]⟩) := heap_alloc_new w _
  refine (hnr _).mono ?_
  rintro e w1 ⟨rfl, r1, k1⟩
  have b1 : c4 w1 w.heap.size (.string ⟨#[]⟩) (.int .u64 0) (.string ⟨#[]⟩) (.string ⟨#[]⟩) := k1.kept b0 (fun h => h)
  have n1 := ((New.refl w).alloc _).then k1 (fun _ h => h.elim)
  rw [World.size_alloc] at *
  generalize hA : w.heap.size = A at *
  have hA0 : w.heap.size ≤ A := by omega
  clear hA
  generalize hB : A + 1 = B at *
  have hAB : A ≠ B := by omega
  have hB0 : w.heap.size ≤ B := by omega
  clear hB b0 k1 hnr
  go_upto_region 3 with (fail)
  have m2 : New w1 (w1.alloc (.cells #[.string ⟨#[]⟩, .int .u64 0, .string ⟨#[]⟩, .string ⟨#[]⟩] 41)) := (New.refl w1).alloc _
  have q2 : c4 (w1.alloc (.cells #[.string ⟨#[]⟩, .int .u64 0, .string ⟨#[]⟩, .string ⟨#[]⟩] 41)) w1.heap.size (.string ⟨#[]⟩) (.int .u64 0) (.string ⟨#[]⟩) (.string ⟨#[]⟩) := heap_alloc_new w1 _
  have b2 : c4 (w1.alloc (.cells #[.string ⟨#[]⟩, .int .u64 0, .string ⟨#[]⟩, .string ⟨#[]⟩] 41)) A (.string ⟨#[]⟩) (.int .u64 0) (.string ⟨#[]⟩) (.string ⟨#[]⟩) := m2.kept b1 (fun h => h)
  have r2 : Rd2 (w1.alloc (.cells #[.string ⟨#[]⟩, .int .u64 0, .string ⟨#[]⟩, .string ⟨#[]⟩] 41)) B p.1 p.2 := m2.kept r1 (fun h => h)
  have n2 := n1.then m2 (fun _ h => h.elim)
  have hAQ : A ≠ w1.heap.size := by have := (Array.getElem?_eq_some_iff.1 b1).1; omega
  have hBQ : B ≠ w1.heap.size := by have := (Array.getElem?_eq_some_iff.1 r1).1; omega
  have hQ0 := n1.size
  clear m2 b1 r1 n1
  generalize World.alloc w1 _ = w2 at *
  generalize w1.heap.size = Q at *
  clear w1
  go_wp2_with fail
  refine (rtext2_p B p 128 w2 r2).mono ?_
  rintro e w3 ⟨s0, p1, h0, rfl, r3, k3⟩
  have b3 := b2.keepB k3 hAB
  have q3 := q2.keepB k3 (Ne.symm hBQ)
  have n3 := n2.then k3 (fun j hj => .inr (by subst hj; exact hB0))
  clear b2 n2 r2 k3 q2
  have d3 := cells4 q3
  go_upto_region 4 with (fail)
  have b4 := b3.far hAQ 0 (.string ⟨s0.toArray⟩)
  have q4 := q3.set0 (.string ⟨s0.toArray⟩)
  have r4 : Rd2 (w3.setCell ⟨Q, 0, none⟩ (.string ⟨s0.toArray⟩)) B p1.1 p1.2 := far_blk r3 hBQ 0 _
  have n4 := n3.set hQ0 0 (.string ⟨s0.toArray⟩)
  clear b3 q3 r3 n3 d3
  generalize World.setCell w3 _ _ = w4 at *
  go_wp2_with fail
  refine (rnum2_p B p1 w4 r4).mono ?_
  rintro e w5 ⟨n1, p2, h1, rfl, r5, k5⟩
  have b5 := b4.keepB k5 hAB
  have q5 := q4.keepB k5 (Ne.symm hBQ)
  have n5 := n4.then k5 (fun j hj => .inr (by subst hj; exact hB0))
  clear b4 q4 r4 n4 k5
  have d5 := cells4 q5
  go_upto_region 5 with (fail)
  have b6 := b5.far hAQ 1 (.int .u64 (n1 : Nat))
  have q6 := q5.set1 (.int .u64 (n1 : Nat))
  have r6 : Rd2 (w5.setCell ⟨Q, 1, none⟩ (.int .u64 (n1 : Nat))) B p2.1 p2.2 := far_blk r5 hBQ 1 _
  have n6 := n5.set hQ0 1 (.int .u64 (n1 : Nat))
  clear b5 q5 r5 n5 d5
  generalize World.setCell w5 _ _ = w6 at *
  go_wp2_with fail
  refine (rtext2_p B p2 32 w6 r6).mono ?_
  rintro e w7 ⟨s2, p3, h2, rfl, r7, k7⟩
  have b7 := b6.keepB k7 hAB
  have q7 := q6.keepB k7 (Ne.symm hBQ)
  have n7 := n6.then k7 (fun j hj => .inr (by subst hj; exact hB0))
  clear b6 q6 r6 n6 k7
  have d7 := cells4 q7
  go_upto_region 6 with (fail)
  have b8 := b7.far hAQ 2 (.string ⟨s2.toArray⟩)
  have q8 := q7.set2 (.string ⟨s2.toArray⟩)
  have r8 : Rd2 (w7.setCell ⟨Q, 2, none⟩ (.string ⟨s2.toArray⟩)) B p3.1 p3.2 := far_blk r7 hBQ 2 _
  have n8 := n7.set hQ0 2 (.string ⟨s2.toArray⟩)
  clear b7 q7 r7 n7 d7
  generalize World.setCell w7 _ _ = w8 at *
  go_wp2_with fail
  refine (rtext2_p B p3 32 w8 r8).mono ?_
  rintro e w9 ⟨s3, p4, h3, rfl, r9, k9⟩
  have b9 := b8.keepB k9 hAB
  have q9 := q8.keepB k9 (Ne.symm hBQ)
  have n9 := n8.then k9 (fun j hj => .inr (by subst hj; exact hB0))
  clear b8 q8 r8 n8 k9
  have d9 := cells4 q9
  have hn1 : U64 n1 := by rw [h1.out.1]; exact numOut_u _ _
  have HK := Lib.hid (tk_of h0 h1 h2 h3)
  clear h0 h1 h2 h3
  go_upto_region 7 with (fail)
  have b10 := b9.far hAQ 3 (.string ⟨s3.toArray⟩)
  have q10 := q9.set3 (.string ⟨s3.toArray⟩)
  have r10 : Rd2 (w9.setCell ⟨Q, 3, none⟩ (.string ⟨s3.toArray⟩)) B p4.1 p4.2 := far_blk r9 hBQ 3 _
  have n10 := n9.set hQ0 3 (.string ⟨s3.toArray⟩)
  clear b9 q9 r9 n9 d9
  generalize World.setCell w9 _ _ = w10 at *
  clear w3 w5 w7 w9
  obtain ⟨l4, bad4⟩ := p4
  go_wp2_with fail
  refine (end2_any B l4 bad4 w10 r10).mono ?_
  rintro e w' ⟨rfl, rfl⟩
  have d10 := cells4 q10
  have R : ∀ w, Calls Try.prog 42 #[.agg #[.string ⟨s0.toArray⟩, .int .u64 (n1 : Nat), .string ⟨s2.toArray⟩, .string ⟨s3.toArray⟩]] w fun e w' => e = .returned (.tuple #[.string ⟨(layO ⟨s0, n1, s2, s3⟩).toArray⟩, .int .i64 (layE ⟨s0, n1, s2, s3⟩)]) ∧ New w w' := fun w => cLay2 ⟨s0, n1, s2, s3⟩ hn1 w
  generalize (!bad4 && l4.isEmpty) = en at *
  go_wp2_with fail
  refine (R _).mono ?_
  rintro e w11 ⟨rfl, k11⟩
  have b11 : c4 w11 A (.string ⟨#[]⟩) (.int .u64 0) (.string ⟨#[]⟩) (.string ⟨#[]⟩) := k11.kept b10 (fun h => h)
  have q11 : c4 w11 Q (.string ⟨s0.toArray⟩) (.int .u64 (n1 : Nat)) (.string ⟨s2.toArray⟩) (.string ⟨s3.toArray⟩) := k11.kept q10 (fun h => h)
  have n11 := n10.then k11 (fun _ h => h.elim)
  clear d10 b10 q10 r10 n10 k11 R
  have d11 := cells4 b11
  have d11a := cells4 q11
  generalize layO ⟨s0, n1, s2, s3⟩ = lo at *
  have HL : Hid (layE ⟨s0, n1, s2, s3⟩ = if rightC ⟨s0, n1, s2, s3⟩ then 0 else 190) := rfl
  generalize layE ⟨s0, n1, s2, s3⟩ = le at *
  rcases en with _ | _
  · have HO : Hid (tkO p = noC ∧ tkE p = 190) := by rw [Hid, HK.out.1, HK.out.2]; exact ⟨rfl, rfl⟩
    clear HK HL
    go_wp2_with fail
    generalize hW : World.setCell (World.setCell (World.setCell (World.setCell w11 _ _) _ _) _ _) _ _ = W
    have kW := st4_new n11 hA0 hW
    have bW := cells4 (st4 b11 hW)
    clear hW d11 d11a b11 q11 n11
    exact bodyPost_ret (v := .tuple #[.agg #[.string ⟨#[]⟩, .int .u64 0, .string ⟨#[]⟩, .string ⟨#[]⟩], .int .i64 190]) (by simp [results, Try.results44, go_sem, bW]) rfl ⟨by rw [HO.out.1, HO.out.2]; rfl, kW⟩
  · have HK2 : Hid (tkO p = (if rightC ⟨s0, n1, s2, s3⟩ then ⟨s0, n1, s2, s3⟩ else noC) ∧ tkE p = (if rightC ⟨s0, n1, s2, s3⟩ then 0 else 190)) := by rw [Hid, HK.out.1, HK.out.2]; exact ⟨rfl, rfl⟩
    clear HK
    rcases hr : rightC ⟨s0, n1, s2, s3⟩ with _ | _
    · have HO : Hid (tkO p = noC ∧ tkE p = 190) := by rw [Hid, HK2.out.1, HK2.out.2, hr]; exact ⟨rfl, rfl⟩
      obtain rfl : le = 190 := by rw [HL.out, hr]; rfl
      clear HK2 HL hr
      go_wp2_with fail
      generalize hW : World.setCell (World.setCell (World.setCell (World.setCell w11 _ _) _ _) _ _) _ _ = W
      have kW := st4_new n11 hA0 hW
      have bW := cells4 (st4 b11 hW)
      clear hW d11 d11a b11 q11 n11
      exact bodyPost_ret (v := .tuple #[.agg #[.string ⟨#[]⟩, .int .u64 0, .string ⟨#[]⟩, .string ⟨#[]⟩], .int .i64 190]) (by simp [results, Try.results44, go_sem, bW]) rfl ⟨by rw [HO.out.1, HO.out.2]; rfl, kW⟩
    · have HO : Hid (tkO p = ⟨s0, n1, s2, s3⟩ ∧ tkE p = 0) := by rw [Hid, HK2.out.1, HK2.out.2, hr]; exact ⟨rfl, rfl⟩
      obtain rfl : le = 0 := by rw [HL.out, hr]; rfl
      clear HK2 HL hr
      go_wp2_with fail
      generalize hW : World.setCell (World.setCell (World.setCell (World.setCell w11 _ _) _ _) _ _) _ _ = W
      have kW := st4_new n11 hA0 hW
      have bW := cells4 (st4 b11 hW)
      clear hW d11 d11a b11 q11 n11
      exact bodyPost_ret (v := .tuple #[.agg #[.string ⟨s0.toArray⟩, .int .u64 (n1 : Nat), .string ⟨s2.toArray⟩, .string ⟨s3.toArray⟩], .int .i64 0]) (by simp [results, Try.results44, go_sem, bW]) rfl ⟨by rw [HO.out.1, HO.out.2], kW⟩
end Go.Proofs.Ytcldbipipehedaa
