/-
  WALKS: transfer.between, right, check; coins in memory.
-/
import Derived.Test.YtcldbipipehedaaBk6
import Derived.Test.YtcldbipipehedaaNam
namespace Go.Proofs.Ytcldbipipehedaa
open Go.RowKit Go.ChangeMaps

structure Co where
  den : List UInt8
  amt : Nat
  fr : List UInt8
  to : List UInt8
def rightC (c : Co) : Bool := okN c.den 128 && okN c.fr 32 && okN c.to 32 && decide (0 < c.amt)
def isEsc (x : List UInt8) : Bool := sEscrow.isPrefixOf x
def chkC (c : Co) : Int := if rightC c then (if isEsc c.fr || isEsc c.to then 191 else 0) else 190
/-- a coin, laid -/
def cn (w : World) (q : Nat) (c : Co) : Prop := w.heap[q]? = some (.cells #[.string ⟨c.den.toArray⟩, .int .u64 c.amt, .string ⟨c.fr.toArray⟩, .string ⟨c.to.toArray⟩] 41 (0, 0))
theorem cn.cells {w : World} {q : Nat} {c : Co} (h : cn w q c) : w.cell? ⟨q, 0, none⟩ = some (.string ⟨c.den.toArray⟩) ∧ w.cell? ⟨q, 1, none⟩ = some (.int .u64 c.amt) ∧ w.cell? ⟨q, 2, none⟩ = some (.string ⟨c.fr.toArray⟩) ∧ w.cell? ⟨q, 3, none⟩ = some (.string ⟨c.to.toArray⟩) := by
  refine ⟨?_, ?_, ?_, ?_⟩ <;> rw [cell_blk h] <;> rfl
theorem cn.keepS {w w' : World} {S : Nat → Prop} {q : Nat} {c : Co} (h : cn w q c) (k : Keeps S w w') (hq : ¬ S q) : cn w' q c := k.kept h hq
theorem cn.keep {w w' : World} {q : Nat} {c : Co} (h : cn w q c) (k : New w w') : cn w' q c := k.kept h (fun h => h)
theorem cn.drew {w : World} {q : Nat} {c : Co} (h : cn w q c) : cn w.drew q c := h
theorem between2_any (x : List UInt8) (m : Int) (w : World) :
    Calls Try.prog 95 #[.string ⟨x.toArray⟩, .int .i64 m] w fun e w' => e = .returned (.bool (okN x m)) ∧ w = w' := by
  by_cases h : 1 ≤ x.length
  · have e1 : decide (1 ≤ (x.length : Int)) = true := by simp; omega
    have e2 : okN x m = decide ((x.length : Int) ≤ m) := by unfold okN; rw [e1]; rfl
    rw [e2]
    clear e2 h
    go_enter Try.func95, Try.ntmps95
    go_wp2
    go_ret
    exact ⟨rfl, rfl⟩
  · have e1 : decide (1 ≤ (x.length : Int)) = false := by simp; omega
    have e2 : okN x m = false := by unfold okN; rw [e1]; rfl
    rw [e2]
    clear e2 h
    go_enter Try.func95, Try.ntmps95
    go_wp2
    go_ret
    exact ⟨rfl, rfl⟩
set_option maxHeartbeats 1000000 in
theorem right_any (c : Co) (w : World) :
    Calls Try.prog 70 #[.agg #[.string ⟨c.den.toArray⟩, .int .u64 c.amt, .string ⟨c.fr.toArray⟩, .string ⟨c.to.toArray⟩]] w fun e w' => e = .returned (.bool (rightC c)) ∧ New w w' := by
  have n1 : New w (w.alloc (.cells #[.string ⟨c.den.toArray⟩, .int .u64 c.amt, .string ⟨c.fr.toArray⟩, .string ⟨c.to.toArray⟩] 41)) := (New.refl w).alloc _
  have q1 : cn (w.alloc (.cells #[.string ⟨c.den.toArray⟩, .int .u64 c.amt, .string ⟨c.fr.toArray⟩, .string ⟨c.to.toArray⟩] 41)) w.heap.size c := heap_alloc_new w _
  have B1 := fun w => between2_any c.den 128 w
  have B2 := fun w => between2_any c.fr 32 w
  have B3 := fun w => between2_any c.to 32 w
  have HR : Hid (rightC c = (okN c.den 128 && okN c.fr 32 && okN c.to 32 && decide (0 < c.amt))) := rfl
  generalize rightC c = out at *
  rcases b1 : okN c.den 128 with _ | _
  · rw [b1] at B1
    have HO : Hid (out = false) := by rw [Hid, HR.out, b1]; simp
    clear HR b1 B2 B3
    go_enter Try.func70, Try.ntmps70
    go_wp2_with fail
    refine (B1 _).mono ?_
    rintro e w' ⟨rfl, rfl⟩
    go_wp2_with fail
    go_ret
    exact ⟨by rw [HO.out]; rfl, n1⟩
  · rw [b1] at B1
    rcases b2 : okN c.fr 32 with _ | _
    · rw [b2] at B2
      have HO : Hid (out = false) := by rw [Hid, HR.out, b2]; simp
      clear HR b1 b2 B3
      go_enter Try.func70, Try.ntmps70
      go_wp2_with fail
      generalize World.alloc w _ = W at *
      generalize w.heap.size = q at *
      have d := q1.cells
      refine (B1 _).mono ?_
      rintro e w' ⟨rfl, rfl⟩
      go_wp2_with fail
      refine (B2 _).mono ?_
      rintro e w' ⟨rfl, rfl⟩
      go_wp2_with fail
      go_ret
      exact ⟨by rw [HO.out]; rfl, n1⟩
    · rw [b2] at B2
      rcases b3 : okN c.to 32 with _ | _
      · rw [b3] at B3
        have HO : Hid (out = false) := by rw [Hid, HR.out, b3]; simp
        clear HR b1 b2 b3
        go_enter Try.func70, Try.ntmps70
        go_wp2_with fail
        generalize World.alloc w _ = W at *
        generalize w.heap.size = q at *
        have d := q1.cells
        refine (B1 _).mono ?_
        rintro e w' ⟨rfl, rfl⟩
        go_wp2_with fail
        refine (B2 _).mono ?_
        rintro e w' ⟨rfl, rfl⟩
        go_wp2_with fail
        refine (B3 _).mono ?_
        rintro e w' ⟨rfl, rfl⟩
        go_wp2_with fail
        go_ret
        exact ⟨by rw [HO.out]; rfl, n1⟩
      · rw [b3] at B3
        have HO : Hid (out = decide (0 < c.amt)) := by rw [Hid, HR.out, b1, b2, b3]; simp
        clear HR b1 b2 b3
        go_enter Try.func70, Try.ntmps70
        go_wp2_with fail
        generalize World.alloc w _ = W at *
        generalize w.heap.size = q at *
        have d := q1.cells
        refine (B1 _).mono ?_
        rintro e w' ⟨rfl, rfl⟩
        go_wp2_with fail
        refine (B2 _).mono ?_
        rintro e w' ⟨rfl, rfl⟩
        go_wp2_with fail
        refine (B3 _).mono ?_
        rintro e w' ⟨rfl, rfl⟩
        go_wp2_with fail
        go_ret
        exact ⟨by rw [HO.out]; first | rfl | simp, n1⟩
theorem pre_any (x : List UInt8) (w : World) : Calls Try.prog 93 #[.string ⟨x.toArray⟩, .string ⟨#[101, 115, 99, 114, 111, 119, 47]⟩] w fun e w' => e = .returned (.bool (isEsc x)) ∧ w = w' :=
  (Try.strings_HasPrefix ⟨x.toArray⟩ ⟨#[101, 115, 99, 114, 111, 119, 47]⟩ w).mono fun _ _ ⟨he, hw⟩ => ⟨he, hw.symm⟩
set_option maxHeartbeats 1000000 in
theorem chkC_any (c : Co) (w : World) :
    Calls Try.prog 64 #[.agg #[.string ⟨c.den.toArray⟩, .int .u64 c.amt, .string ⟨c.fr.toArray⟩, .string ⟨c.to.toArray⟩]] w fun e w' => e = .returned (.int .i64 (chkC c)) ∧ New w w' := by
  have n1 : New w (w.alloc (.cells #[.string ⟨c.den.toArray⟩, .int .u64 c.amt, .string ⟨c.fr.toArray⟩, .string ⟨c.to.toArray⟩] 41)) := (New.refl w).alloc _
  have q1 : cn (w.alloc (.cells #[.string ⟨c.den.toArray⟩, .int .u64 c.amt, .string ⟨c.fr.toArray⟩, .string ⟨c.to.toArray⟩] 41)) w.heap.size c := heap_alloc_new w _
  have R := fun w => right_any c w
  have P1 := fun w => pre_any c.fr w
  have P2 := fun w => pre_any c.to w
  have HR : Hid (chkC c = if rightC c then (if isEsc c.fr || isEsc c.to then 191 else 0) else 190) := rfl
  generalize chkC c = out at *
  rcases b1 : rightC c with _ | _
  · rw [b1] at R
    have HO : Hid (out = 190) := by rw [Hid, HR.out, b1]; simp
    clear HR b1 P1 P2
    go_enter Try.func64, Try.ntmps64
    go_wp2_with fail
    generalize World.alloc w _ = W at *
    generalize w.heap.size = q at *
    refine (R _).mono ?_
    rintro e w2 ⟨rfl, k2⟩
    have n2 := n1.then k2 (fun _ h => h.elim)
    go_wp2_with fail
    go_ret
    exact ⟨by rw [HO.out]; rfl, n2⟩
  · rw [b1] at R
    rcases b2 : isEsc c.fr with _ | _
    · rw [b2] at P1
      have HO : Hid (out = if isEsc c.to then 191 else 0) := by rw [Hid, HR.out, b1, b2]; simp
      clear HR b1 b2
      rcases b3 : isEsc c.to with _ | _
      · rw [b3] at P2
        have HO2 : Hid (out = 0) := by rw [Hid, HO.out, b3]; simp
        clear HO b3
        go_enter Try.func64, Try.ntmps64
        go_wp2_with fail
        generalize World.alloc w _ = W at *
        generalize w.heap.size = q at *
        refine (R _).mono ?_
        rintro e w2 ⟨rfl, k2⟩
        have n2 := n1.then k2 (fun _ h => h.elim)
        have d := (q1.keep k2).cells
        go_wp2_with fail
        refine (P1 _).mono ?_
        rintro e w' ⟨rfl, rfl⟩
        go_wp2_with fail
        refine (P2 _).mono ?_
        rintro e w' ⟨rfl, rfl⟩
        go_wp2_with fail
        go_ret
        exact ⟨by rw [HO2.out]; rfl, n2⟩
      · rw [b3] at P2
        have HO2 : Hid (out = 191) := by rw [Hid, HO.out, b3]; simp
        clear HO b3
        go_enter Try.func64, Try.ntmps64
        go_wp2_with fail
        generalize World.alloc w _ = W at *
        generalize w.heap.size = q at *
        refine (R _).mono ?_
        rintro e w2 ⟨rfl, k2⟩
        have n2 := n1.then k2 (fun _ h => h.elim)
        have d := (q1.keep k2).cells
        go_wp2_with fail
        refine (P1 _).mono ?_
        rintro e w' ⟨rfl, rfl⟩
        go_wp2_with fail
        refine (P2 _).mono ?_
        rintro e w' ⟨rfl, rfl⟩
        go_wp2_with fail
        go_ret
        exact ⟨by rw [HO2.out]; rfl, n2⟩
    · rw [b2] at P1
      have HO : Hid (out = 191) := by rw [Hid, HR.out, b1, b2]; simp
      clear HR b1 b2 P2
      go_enter Try.func64, Try.ntmps64
      go_wp2_with fail
      generalize World.alloc w _ = W at *
      generalize w.heap.size = q at *
      refine (R _).mono ?_
      rintro e w2 ⟨rfl, k2⟩
      have n2 := n1.then k2 (fun _ h => h.elim)
      have d := (q1.keep k2).cells
      go_wp2_with fail
      refine (P1 _).mono ?_
      rintro e w' ⟨rfl, rfl⟩
      go_wp2_with fail
      go_ret
      exact ⟨by rw [HO.out]; rfl, n2⟩
end Go.Proofs.Ytcldbipipehedaa
