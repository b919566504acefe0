/-
  WALKS: the document's Lay of a coin.
-/
import Derived.Test.YtcldbipipehedaaTr3
namespace Go.Proofs.Ytcldbipipehedaa
open Go.RowKit
theorem layO_no {c : Co} (h : rightC c = false) : layO c = [] ∧ layE c = 190 := by unfold layO layE; rw [h]; exact ⟨rfl, rfl⟩
set_option maxHeartbeats 4000000 in
set_option maxRecDepth 100000 in
theorem cLay2 (c : Co) (hv : U64 c.amt) (w : World) :
    Calls Try.prog 42 #[.agg #[.string ⟨c.den.toArray⟩, .int .u64 c.amt, .string ⟨c.fr.toArray⟩, .string ⟨c.to.toArray⟩]] w fun e w' => e = .returned (.tuple #[.string ⟨(layO c).toArray⟩, .int .i64 (layE c)]) ∧ New w w' := by
  have n1 : New w (w.alloc (.cells #[.string ⟨c.den.toArray⟩, .int .u64 c.amt, .string ⟨c.fr.toArray⟩, .string ⟨c.to.toArray⟩] 41)) := (New.refl w).alloc _
  have q1 : cn (w.alloc (.cells #[.string ⟨c.den.toArray⟩, .int .u64 c.amt, .string ⟨c.fr.toArray⟩, .string ⟨c.to.toArray⟩] 41)) w.heap.size c := heap_alloc_new w _
  by_cases h0 : c.den.length < 1
  · have e0 : decide ((c.den.length : Int) < 1) = true := by simp; omega
    have HR : rightC c = false := by
      rcases hr : rightC c with _ | _
      · rfl
      · have := right_parts hr; omega
    obtain ⟨HO, HE⟩ := layO_no HR
    have HO := Lib.hid HO
    have HE := Lib.hid HE
    clear HR h0
    generalize layO c = out at *
    generalize layE c = oe at *
    have d := q1.cells
    go_enter Try.func42, Try.ntmps42
    go_wp2_with fail
    go_ret2
    exact ⟨by rw [HO.out, HE.out]; rfl, n1⟩
  · have e0 : decide ((c.den.length : Int) < 1) = false := by simp; omega
    by_cases h1 : 128 < c.den.length
    · have e1 : decide (128 < (c.den.length : Int)) = true := by simp; omega
      have HR : rightC c = false := by
        rcases hr : rightC c with _ | _
        · rfl
        · have := right_parts hr; omega
      obtain ⟨HO, HE⟩ := layO_no HR
      have HO := Lib.hid HO
      have HE := Lib.hid HE
      clear HR h0 h1
      generalize layO c = out at *
      generalize layE c = oe at *
      have d := q1.cells
      go_enter Try.func42, Try.ntmps42
      go_wp2_with fail
      go_ret2
      exact ⟨by rw [HO.out, HE.out]; rfl, n1⟩
    · have e1 : decide (128 < (c.den.length : Int)) = false := by simp; omega
      by_cases h2 : c.fr.length < 1
      · have e2 : decide ((c.fr.length : Int) < 1) = true := by simp; omega
        have HR : rightC c = false := by
          rcases hr : rightC c with _ | _
          · rfl
          · have := right_parts hr; omega
        obtain ⟨HO, HE⟩ := layO_no HR
        have HO := Lib.hid HO
        have HE := Lib.hid HE
        clear HR h0 h1 h2
        generalize layO c = out at *
        generalize layE c = oe at *
        have d := q1.cells
        go_enter Try.func42, Try.ntmps42
        go_wp2_with fail
        go_ret2
        exact ⟨by rw [HO.out, HE.out]; rfl, n1⟩
      · have e2 : decide ((c.fr.length : Int) < 1) = false := by simp; omega
        by_cases h3 : 32 < c.fr.length
        · have e3 : decide (32 < (c.fr.length : Int)) = true := by simp; omega
          have HR : rightC c = false := by
            rcases hr : rightC c with _ | _
            · rfl
            · have := right_parts hr; omega
          obtain ⟨HO, HE⟩ := layO_no HR
          have HO := Lib.hid HO
          have HE := Lib.hid HE
          clear HR h0 h1 h2 h3
          generalize layO c = out at *
          generalize layE c = oe at *
          have d := q1.cells
          go_enter Try.func42, Try.ntmps42
          go_wp2_with fail
          go_ret2
          exact ⟨by rw [HO.out, HE.out]; rfl, n1⟩
        · have e3 : decide (32 < (c.fr.length : Int)) = false := by simp; omega
          by_cases h4 : c.to.length < 1
          · have e4 : decide ((c.to.length : Int) < 1) = true := by simp; omega
            have HR : rightC c = false := by
              rcases hr : rightC c with _ | _
              · rfl
              · have := right_parts hr; omega
            obtain ⟨HO, HE⟩ := layO_no HR
            have HO := Lib.hid HO
            have HE := Lib.hid HE
            clear HR h0 h1 h2 h3 h4
            generalize layO c = out at *
            generalize layE c = oe at *
            have d := q1.cells
            go_enter Try.func42, Try.ntmps42
            go_wp2_with fail
            go_ret2
            exact ⟨by rw [HO.out, HE.out]; rfl, n1⟩
          · have e4 : decide ((c.to.length : Int) < 1) = false := by simp; omega
            by_cases h5 : 32 < c.to.length
            · have e5 : decide (32 < (c.to.length : Int)) = true := by simp; omega
              have HR : rightC c = false := by
                rcases hr : rightC c with _ | _
                · rfl
                · have := right_parts hr; omega
              obtain ⟨HO, HE⟩ := layO_no HR
              have HO := Lib.hid HO
              have HE := Lib.hid HE
              clear HR h0 h1 h2 h3 h4 h5
              generalize layO c = out at *
              generalize layE c = oe at *
              have d := q1.cells
              go_enter Try.func42, Try.ntmps42
              go_wp2_with fail
              go_ret2
              exact ⟨by rw [HO.out, HE.out]; rfl, n1⟩
            · have e5 : decide (32 < (c.to.length : Int)) = false := by simp; omega
              by_cases h6 : c.amt = 0
              · have e6 : ((c.amt : Int) == 0) = true := by simp [h6]
                have HR : rightC c = false := by
                  rcases hr : rightC c with _ | _
                  · rfl
                  · have := right_parts hr; omega
                obtain ⟨HO, HE⟩ := layO_no HR
                have HO := Lib.hid HO
                have HE := Lib.hid HE
                clear HR h0 h1 h2 h3 h4 h5 h6
                generalize layO c = out at *
                generalize layE c = oe at *
                have d := q1.cells
                go_enter Try.func42, Try.ntmps42
                go_wp2_with fail
                go_ret2
                exact ⟨by rw [HO.out, HE.out]; rfl, n1⟩
              · have e6 : ((c.amt : Int) == 0) = false := by simp; omega
                have HR : rightC c = true := by
                  unfold rightC okN
                  simp only [Bool.and_eq_true, decide_eq_true_eq]
                  omega
                have HO : Hid (layO c = ((([] ++ (be 4 c.den.length ++ c.den)) ++ be 8 c.amt) ++ (be 4 c.fr.length ++ c.fr)) ++ (be 4 c.to.length ++ c.to)) := by
                  rw [Hid]; unfold layO layC tx; rw [HR]; simp
                have HE : Hid (layE c = 0) := by rw [Hid]; unfold layE; rw [HR]; rfl
                have L0 : ([] : List UInt8).length + 4 + c.den.length ≤ 140737488355328 := by simp; omega
                have L1 : ([] ++ (be 4 c.den.length ++ c.den)).length + 8 ≤ 140737488355328 := by simp [be_length]; omega
                have L2 : (([] ++ (be 4 c.den.length ++ c.den)) ++ be 8 c.amt).length + 4 + c.fr.length ≤ 140737488355328 := by simp [be_length]; omega
                have L3 : ((([] ++ (be 4 c.den.length ++ c.den)) ++ be 8 c.amt) ++ (be 4 c.fr.length ++ c.fr)).length + 4 + c.to.length ≤ 140737488355328 := by simp [be_length]; omega
                clear HR h0 h1 h2 h3 h4 h5 h6
                generalize layO c = out at *
                generalize layE c = oe at *
                generalize hx1 : [] ++ (be 4 c.den.length ++ c.den) = x1 at *
                generalize hx2 : x1 ++ be 8 c.amt = x2 at *
                generalize hx3 : x2 ++ (be 4 c.fr.length ++ c.fr) = x3 at *
                have G1 := Lib.hid hx1
                have G2 := Lib.hid hx2
                have G3 := Lib.hid hx3
                clear hx1 hx2 hx3
                have d := q1.cells
                go_enter Try.func42, Try.ntmps42
                go_wp2_with fail
                generalize World.alloc w _ = W at *
                generalize w.heap.size = q at *
                refine (dNew (New.refl W)).mono ?_
                rintro e w3 ⟨b, rfl, h3⟩
                clear d
                have d := (q1.keep h3.2.1).cells
                go_wp2_with fail
                refine (dText h3 c.den L0).mono ?_
                rintro e w4 ⟨rfl, h4⟩
                rw [G1.out] at h4
                have d4 := (q1.keep h4.2.1).cells
                clear h3 d
                go_wp2_with fail
                refine (dNum h4 c.amt hv L1).mono ?_
                rintro e w5 ⟨rfl, h5⟩
                rw [G2.out] at h5
                have d5 := (q1.keep h5.2.1).cells
                clear h4 d4
                go_wp2_with fail
                refine (dText h5 c.fr L2).mono ?_
                rintro e w6 ⟨rfl, h6⟩
                rw [G3.out] at h6
                have d6 := (q1.keep h6.2.1).cells
                clear h5 d5
                go_wp2_with fail
                refine (dText h6 c.to L3).mono ?_
                rintro e w7 ⟨rfl, h7⟩
                clear h6 d6
                go_wp2_with fail
                refine (dBytes h7).mono ?_
                rintro e w8 ⟨rfl, n8⟩
                have n9 := n1.then n8 (fun _ h => h.elim)
                go_wp2_with fail
                go_ret2
                exact ⟨by rw [HO.out, HE.out]; rfl, n9⟩
end Go.Proofs.Ytcldbipipehedaa
