/-
  voussoirlaw17.LinkBack: Take undoes Lay: the plain law, and the walk.
-/
import Derived.Test.YtclldibadmnppaaLnk2
import Derived.Test.YtclldibadmnppaaLnk7
import Derived.Test.YtclldibadmnppaaBack
namespace Go.Proofs.Ytclldibadmnppaa
open Go.RowKit

theorem nm_flat (n : Nat) (l : List Nat) (h : U64 n) : nm (flat (n :: l), false) = n ∧ nx (flat (n :: l), false) = (flat l, false) := by
  have e : flat (n :: l) = be 8 n ++ flat l := by rw [show n :: l = [n] ++ l from rfl, flat_append, flat_one]
  obtain ⟨h1, h2, h3⟩ := num_back n (flat l) h
  unfold nm nx
  simp only [e]
  exact ⟨h2, by rw [h1, h3]⟩
theorem outT_flat (st cl pe pc : Nat) (hst : st ≤ 3) (hc : U64 cl) (hp : U64 pe) (hpc : U64 pc) (ok : okL st pe = true) :
    outT (flat [st, cl, pe, pc], false) = .tuple #[.agg #[.int .i64 st, .int .u64 cl, .int .u64 pe, .int .u64 pc], .int .i64 0] := by
  have hu : U64 st := by show _ < _; omega
  have a := nm_flat st [cl, pe, pc] hu
  have b := nm_flat cl [pe, pc] hc
  have c := nm_flat pe [pc] hp
  have d := nm_flat pc [] hpc
  have e : okT (flat [st, cl, pe, pc], false) = true := by
    unfold okT
    rw [a.2, b.2, c.2, d.2, a.1, c.1, ok]
    rfl
  unfold outT
  rw [if_pos e, a.2, b.2, c.2, a.1, b.1, c.1, d.1]

/-- an end's peer, set right -/
def pee (n pe : Nat) : Nat := if n = 1 then 0 else pe
theorem okL_pee (n pe : Nat) (h1 : 1 ≤ n) (h3 : n ≤ 3) : okL (n : Int) (pee n pe) = true := by
  unfold okL pee
  by_cases h : n = 1
  · subst h; rfl
  · rw [if_neg (by omega)]; simp; omega
theorem flat_inj {a0 a1 a2 a3 b0 b1 b2 b3 : Nat} (ha : a0 ≤ 3) (h1 : U64 a1) (h2 : U64 a2) (h3 : U64 a3) (oka : okL a0 a2 = true) (hb : b0 ≤ 3) (g1 : U64 b1) (g2 : U64 b2) (g3 : U64 b3) (okb : okL b0 b2 = true)
    (e : flat [a0, a1, a2, a3] = flat [b0, b1, b2, b3]) : a0 = b0 ∧ a1 = b1 ∧ a2 = b2 ∧ a3 = b3 := by
  have ea := outT_flat a0 a1 a2 a3 ha h1 h2 h3 oka
  have eb := outT_flat b0 b1 b2 b3 hb g1 g2 g3 okb
  rw [e, eb] at ea
  simp at ea
  omega

set_option maxHeartbeats 8000000 in
set_option maxRecDepth 100000 in
theorem linkback_walk (sa sb : Int) (ca pa qa cb pb qb : Nat) (ia : I64 sa) (ib : I64 sb) (h1 : U64 ca) (h2 : U64 pa) (h3 : U64 qa) (g1 : U64 cb) (g2 : U64 pb) (g3 : U64 qb) (w : World) :
    Calls Try.prog 16 #[.agg #[.int .i64 sa, .int .u64 ca, .int .u64 pa, .int .u64 qa], .agg #[.int .i64 sb, .int .u64 cb, .int .u64 pb, .int .u64 qb]] w fun e w' => e = .returned (.bool true) ∧ New w w' := by
  have xa := fun w => pick17_any sa 3 w ia (by omega) (by omega)
  have xb := fun w => pick17_any sb 3 w ib (by omega) (by omega)
  have la := pk_lt sa 3 (by omega)
  have lb := pk_lt sb 3 (by omega)
  clear ia ib
  generalize pk sa 3 = na at *
  generalize pk sb 3 = nb at *
  have h2' : U64 (pee (1 + na) pa) := by unfold pee; split; exact (by unfold U64; omega); exact h2
  have g2' : U64 (pee (1 + nb) pb) := by unfold pee; split; exact (by unfold U64; omega); exact g2
  have HLa := lay_ok (1 + na) ca (pee (1 + na) pa) qa (by omega) (okL_pee _ _ (by omega) (by omega))
  have HLb := lay_ok (1 + nb) cb (pee (1 + nb) pb) qb (by omega) (okL_pee _ _ (by omega) (by omega))
  have HT := take_any (flat [1 + na, ca, pee (1 + na) pa, qa], false) rfl
  rw [outT_flat _ _ _ _ (by omega) h1 h2' h3 (okL_pee _ _ (by omega) (by omega))] at HT
  have hinj := @flat_inj (1 + na) ca (pee (1 + na) pa) qa (1 + nb) cb (pee (1 + nb) pb) qb (by omega) h1 h2' h3 (okL_pee _ _ (by omega) (by omega)) (by omega) g1 g2' g3 (okL_pee _ _ (by omega) (by omega))
  have HI := Lib.hid hinj
  clear hinj h1 h2 h3 g1 g2 g3 h2' g2'
  have wra : IntKind.i64.wrap (1 + (na : Int)) = ((1 + na : Nat) : Int) := by rw [IntWalk.i64_in _ ⟨by omega, by omega⟩]; omega
  have wrb : IntKind.i64.wrap (1 + (nb : Int)) = ((1 + nb : Nat) : Int) := by rw [IntWalk.i64_in _ ⟨by omega, by omega⟩]; omega
  generalize 1 + na = ma at *
  generalize 1 + nb = mb at *
  clear la lb
  go_enter Try.func16, Try.ntmps16
  have B0 := ((All.nil (T := 36) w).alloc #[.int .i64 sa, .int .u64 ca, .int .u64 pa, .int .u64 qa]).alloc #[.int .i64 sb, .int .u64 cb, .int .u64 pb, .int .u64 qb]
  rw [World.size_alloc] at B0
  have n0 : New w ((w.alloc (.cells #[.int .i64 sa, .int .u64 ca, .int .u64 pa, .int .u64 qa] 36)).alloc (.cells #[.int .i64 sb, .int .u64 cb, .int .u64 pb, .int .u64 qb] 36)) := ((Keeps.refl _ w).alloc _).alloc _
  go_wp2_with fail
  refine (awake17_any _).mono ?_
  rintro e w1 ⟨rfl, k1⟩
  have B1 := B0.keep k1
  have n1 := n0.then k1 (fun _ h => .inl h)
  clear B0 n0
  generalize hA : w.heap.size = A at *
  have hA0 : w.heap.size ≤ A := by omega
  clear hA
  generalize hB : A + 1 = B at *
  have hAB : A ≠ B := by omega
  have hBA : B ≠ A := by omega
  have hB0 : w.heap.size ≤ B := by omega
  clear hB
  have ba : w1.heap[A]? = some (.cells #[.int .i64 sa, .int .u64 ca, .int .u64 pa, .int .u64 qa] 36 (0, 0)) := B1 _ (.tail _ (.head _))
  have bb : w1.heap[B]? = some (.cells #[.int .i64 sb, .int .u64 cb, .int .u64 pb, .int .u64 qb] 36 (0, 0)) := B1 _ (.head _)
  clear B1 k1
  have ca1 := cells4 ba
  go_wp2_with fail
  refine (xa _).mono ?_
  rintro e w' ⟨rfl, rfl⟩
  go_upto_region 3 with (fail)
  have n2 := n1.set hA0 0 (.int .i64 ma)
  have ba2 := st1_blk ba 0 (.int .i64 ma) _ _ _ _ rfl
  have bb2 := kept_set bb hBA 0 (.int .i64 ma)
  generalize w1.setCell _ _ = w2 at *
  clear ca1 ba bb n1
  have ca2 := cells4 ba2
  have cb2 := cells4 bb2
  go_wp2_with fail
  refine (xb _).mono ?_
  rintro e w' ⟨rfl, rfl⟩
  go_upto_region 4 with (fail)
  have n3 := n2.set hB0 0 (.int .i64 mb)
  have ba3 := kept_set ba2 hAB 0 (.int .i64 mb)
  have bb3 := st1_blk bb2 0 (.int .i64 mb) _ _ _ _ rfl
  generalize w2.setCell _ _ = w3 at *
  clear ca2 cb2 ba2 bb2 n2 xa xb wra wrb
  have ca3 := cells4 ba3
  have cb3 := cells4 bb3
  by_cases hma : ma = 1
  · subst hma
    have e1 : pee 1 pa = 0 := rfl
    rw [e1] at HLa HT HI
    clear e1
    go_upto_region 6 with (fail)
    have n4 := n3.set hA0 2 (.int .u64 0)
    have ba4 := st1_blk ba3 2 (.int .u64 0) _ _ _ _ rfl
    have bb4 := kept_set bb3 hBA 2 (.int .u64 0)
    generalize w3.setCell _ _ = w4 at *
    clear ca3 cb3 ba3 bb3 n3
    have ca4 := cells4 ba4
    have cb4 := cells4 bb4
    by_cases hmb : mb = 1
    · subst hmb
      have e3 : pee 1 pb = 0 := rfl
      rw [e3] at HLb HI
      clear e3
      go_wp2_with fail
      have n5 := n4.set hB0 2 (.int .u64 0)
      have ba5 := kept_set ba4 hAB 2 (.int .u64 0)
      have bb5 := st1_blk bb4 2 (.int .u64 0) _ _ _ _ rfl
      generalize w4.setCell _ _ = w5 at *
      clear ca4 cb4 ba4 bb4 n4
      have ca5 := cells4 ba5
      have cb5 := cells4 bb5
      refine (HLa _).mono ?_
      rintro e w6 ⟨rfl, k6⟩
      have ba6 := k6.kept ba5 (fun h => h)
      have bb6 := k6.kept bb5 (fun h => h)
      have n6 := n5.then k6 (fun _ h => .inl h)
      clear ba5 bb5 n5 k6 ca5 cb5
      have ca6 := cells4 ba6
      have cb6 := cells4 bb6
      go_wp2_with fail
      refine (HLb _).mono ?_
      rintro e w7 ⟨rfl, k7⟩
      have ba7 := k7.kept ba6 (fun h => h)
      have bb7 := k7.kept bb6 (fun h => h)
      have n7 := n6.then k7 (fun _ h => .inl h)
      clear ba6 bb6 n6 k7 ca6 cb6
      go_wp2_with fail
      refine (HT _).mono ?_
      rintro e w8 ⟨rfl, k8⟩
      have ba8 := k8.kept ba7 (fun h => h)
      have bb8 := k8.kept bb7 (fun h => h)
      have n8 := n7.then k8 (fun _ h => .inl h)
      have lA := (Array.getElem?_eq_some_iff.1 ba8).1
      have lB := (Array.getElem?_eq_some_iff.1 bb8).1
      clear ba7 bb7 n7 k8
      have ca8 := cells4 ba8
      have cb8 := cells4 bb8
      clear HLa HLb HT ba8 bb8
      go_wp2_with fail
      all_goals go_ret
      all_goals refine ⟨ret_bool ?_, n8.alloc _⟩
      all_goals first
        | (rw [beq_iff_eq]; exact congrArg flat (by simp only [List.cons.injEq, and_true, eq_self]; omega))
        | (rw [beq_iff_eq]; exact congrArg flat (by simp; omega))
        | (rw [beq_iff_eq]; exact congrArg flat (by simp only [Nat.cast_inj, Int.ofNat_inj] at *; simp [*]))
        | (simp only [Bool.not_eq_true', beq_eq_false_iff_ne]; intro h; have hh := HI.out h; omega)
        | (simp only [Bool.not_eq_true', beq_eq_false_iff_ne]; intro h; have hh := HI.out h; simp at hh; omega)
    · have e3 : pee mb pb = pb := if_neg hmb
      rw [e3] at HLb HI
      have e4 : ((mb : Int) == 1) = false := by simp; omega
      clear e3
      go_wp2_with fail
      have n5 := n4
      have ba5 := ba4
      have bb5 := bb4
      generalize w4 = w5 at *
      have ca5 := cells4 ba5
      have cb5 := cells4 bb5
      clear ca4 cb4 ba4 bb4 n4
      refine (HLa _).mono ?_
      rintro e w6 ⟨rfl, k6⟩
      have ba6 := k6.kept ba5 (fun h => h)
      have bb6 := k6.kept bb5 (fun h => h)
      have n6 := n5.then k6 (fun _ h => .inl h)
      clear ba5 bb5 n5 k6 ca5 cb5
      have ca6 := cells4 ba6
      have cb6 := cells4 bb6
      go_wp2_with fail
      refine (HLb _).mono ?_
      rintro e w7 ⟨rfl, k7⟩
      have ba7 := k7.kept ba6 (fun h => h)
      have bb7 := k7.kept bb6 (fun h => h)
      have n7 := n6.then k7 (fun _ h => .inl h)
      clear ba6 bb6 n6 k7 ca6 cb6
      go_wp2_with fail
      refine (HT _).mono ?_
      rintro e w8 ⟨rfl, k8⟩
      have ba8 := k8.kept ba7 (fun h => h)
      have bb8 := k8.kept bb7 (fun h => h)
      have n8 := n7.then k8 (fun _ h => .inl h)
      have lA := (Array.getElem?_eq_some_iff.1 ba8).1
      have lB := (Array.getElem?_eq_some_iff.1 bb8).1
      clear ba7 bb7 n7 k8
      have ca8 := cells4 ba8
      have cb8 := cells4 bb8
      clear HLa HLb HT ba8 bb8
      go_wp2_with fail
      all_goals go_ret
      all_goals refine ⟨ret_bool ?_, n8.alloc _⟩
      all_goals first
        | (rw [beq_iff_eq]; exact congrArg flat (by simp only [List.cons.injEq, and_true, eq_self]; omega))
        | (rw [beq_iff_eq]; exact congrArg flat (by simp; omega))
        | (rw [beq_iff_eq]; exact congrArg flat (by simp only [Nat.cast_inj, Int.ofNat_inj] at *; simp [*]))
        | (simp only [Bool.not_eq_true', beq_eq_false_iff_ne]; intro h; have hh := HI.out h; omega)
        | (simp only [Bool.not_eq_true', beq_eq_false_iff_ne]; intro h; have hh := HI.out h; simp at hh; omega)
  · have e1 : pee ma pa = pa := if_neg hma
    rw [e1] at HLa HT HI
    have e2 : ((ma : Int) == 1) = false := by simp; omega
    clear e1
    go_upto_region 6 with (fail)
    have n4 := n3
    have ba4 := ba3
    have bb4 := bb3
    generalize w3 = w4 at *
    have ca4 := cells4 ba4
    have cb4 := cells4 bb4
    clear ca3 cb3 ba3 bb3 n3
    by_cases hmb : mb = 1
    · subst hmb
      have e3 : pee 1 pb = 0 := rfl
      rw [e3] at HLb HI
      clear e3
      go_wp2_with fail
      have n5 := n4.set hB0 2 (.int .u64 0)
      have ba5 := kept_set ba4 hAB 2 (.int .u64 0)
      have bb5 := st1_blk bb4 2 (.int .u64 0) _ _ _ _ rfl
      generalize w4.setCell _ _ = w5 at *
      clear ca4 cb4 ba4 bb4 n4
      have ca5 := cells4 ba5
      have cb5 := cells4 bb5
      refine (HLa _).mono ?_
      rintro e w6 ⟨rfl, k6⟩
      have ba6 := k6.kept ba5 (fun h => h)
      have bb6 := k6.kept bb5 (fun h => h)
      have n6 := n5.then k6 (fun _ h => .inl h)
      clear ba5 bb5 n5 k6 ca5 cb5
      have ca6 := cells4 ba6
      have cb6 := cells4 bb6
      go_wp2_with fail
      refine (HLb _).mono ?_
      rintro e w7 ⟨rfl, k7⟩
      have ba7 := k7.kept ba6 (fun h => h)
      have bb7 := k7.kept bb6 (fun h => h)
      have n7 := n6.then k7 (fun _ h => .inl h)
      clear ba6 bb6 n6 k7 ca6 cb6
      go_wp2_with fail
      refine (HT _).mono ?_
      rintro e w8 ⟨rfl, k8⟩
      have ba8 := k8.kept ba7 (fun h => h)
      have bb8 := k8.kept bb7 (fun h => h)
      have n8 := n7.then k8 (fun _ h => .inl h)
      have lA := (Array.getElem?_eq_some_iff.1 ba8).1
      have lB := (Array.getElem?_eq_some_iff.1 bb8).1
      clear ba7 bb7 n7 k8
      have ca8 := cells4 ba8
      have cb8 := cells4 bb8
      clear HLa HLb HT ba8 bb8
      go_wp2_with fail
      all_goals go_ret
      all_goals refine ⟨ret_bool ?_, n8.alloc _⟩
      all_goals first
        | (rw [beq_iff_eq]; exact congrArg flat (by simp only [List.cons.injEq, and_true, eq_self]; omega))
        | (rw [beq_iff_eq]; exact congrArg flat (by simp; omega))
        | (rw [beq_iff_eq]; exact congrArg flat (by simp only [Nat.cast_inj, Int.ofNat_inj] at *; simp [*]))
        | (simp only [Bool.not_eq_true', beq_eq_false_iff_ne]; intro h; have hh := HI.out h; omega)
        | (simp only [Bool.not_eq_true', beq_eq_false_iff_ne]; intro h; have hh := HI.out h; simp at hh; omega)
    · have e3 : pee mb pb = pb := if_neg hmb
      rw [e3] at HLb HI
      have e4 : ((mb : Int) == 1) = false := by simp; omega
      clear e3
      go_wp2_with fail
      have n5 := n4
      have ba5 := ba4
      have bb5 := bb4
      generalize w4 = w5 at *
      have ca5 := cells4 ba5
      have cb5 := cells4 bb5
      clear ca4 cb4 ba4 bb4 n4
      refine (HLa _).mono ?_
      rintro e w6 ⟨rfl, k6⟩
      have ba6 := k6.kept ba5 (fun h => h)
      have bb6 := k6.kept bb5 (fun h => h)
      have n6 := n5.then k6 (fun _ h => .inl h)
      clear ba5 bb5 n5 k6 ca5 cb5
      have ca6 := cells4 ba6
      have cb6 := cells4 bb6
      go_wp2_with fail
      refine (HLb _).mono ?_
      rintro e w7 ⟨rfl, k7⟩
      have ba7 := k7.kept ba6 (fun h => h)
      have bb7 := k7.kept bb6 (fun h => h)
      have n7 := n6.then k7 (fun _ h => .inl h)
      clear ba6 bb6 n6 k7 ca6 cb6
      go_wp2_with fail
      refine (HT _).mono ?_
      rintro e w8 ⟨rfl, k8⟩
      have ba8 := k8.kept ba7 (fun h => h)
      have bb8 := k8.kept bb7 (fun h => h)
      have n8 := n7.then k8 (fun _ h => .inl h)
      have lA := (Array.getElem?_eq_some_iff.1 ba8).1
      have lB := (Array.getElem?_eq_some_iff.1 bb8).1
      clear ba7 bb7 n7 k8
      have ca8 := cells4 ba8
      have cb8 := cells4 bb8
      clear HLa HLb HT ba8 bb8
      go_wp2_with fail
      all_goals go_ret
      all_goals refine ⟨ret_bool ?_, n8.alloc _⟩
      all_goals first
        | (rw [beq_iff_eq]; exact congrArg flat (by simp only [List.cons.injEq, and_true, eq_self]; omega))
        | (rw [beq_iff_eq]; exact congrArg flat (by simp; omega))
        | (rw [beq_iff_eq]; exact congrArg flat (by simp only [Nat.cast_inj, Int.ofNat_inj] at *; simp [*]))
        | (simp only [Bool.not_eq_true', beq_eq_false_iff_ne]; intro h; have hh := HI.out h; omega)
        | (simp only [Bool.not_eq_true', beq_eq_false_iff_ne]; intro h; have hh := HI.out h; simp at hh; omega)
end Go.Proofs.Ytclldibadmnppaa
