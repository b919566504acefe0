/-
  voussoirlaw17.LinkWhole: an end that is cut, or goes on, is none: the plain law, and the walk.
-/
import Derived.Test.YtclldibadmnppaaLnk9
namespace Go.Proofs.Ytclldibadmnppaa
open Go.RowKit

theorem nx_ok {p : List UInt8 × Bool} (h : (nx p).2 = false) : p.2 = false ∧ 8 ≤ p.1.length ∧ (nx p).1.length = p.1.length - 8 := by
  have h' : cutBad p.1 p.2 8 = false := h
  have h2 : p.2 = false ∧ 8 ≤ p.1.length := by simpa [cutBad] using h'
  refine ⟨h2.1, h2.2, ?_⟩
  show (cutRest p.1 p.2 8).length = _
  rw [cutRest, h']
  simp
theorem okT_len {p : List UInt8 × Bool} (h : okT p = true) : p.1.length = 32 := by
  unfold okT at h
  simp only [Bool.and_eq_true, Bool.not_eq_true'] at h
  obtain ⟨⟨h4, he⟩, _⟩ := h
  obtain ⟨h3, l3, e3⟩ := nx_ok h4
  obtain ⟨h2, l2, e2⟩ := nx_ok h3
  obtain ⟨h1, l1, e1⟩ := nx_ok h2
  obtain ⟨h0, l0, e0⟩ := nx_ok h1
  have : (nx (nx (nx (nx p)))).1.length = 0 := by rw [List.isEmpty_iff.1 he]; rfl
  omega
theorem outT_bad {p : List UInt8 × Bool} (h : p.1.length ≠ 32) : outT p = .tuple #[.agg #[.int .i64 0, .int .u64 0, .int .u64 0, .int .u64 0], .int .i64 171] := by
  unfold outT
  rw [if_neg (fun e => h (okT_len e))]

set_option maxHeartbeats 8000000 in
set_option maxRecDepth 100000 in
theorem linkwhole_walk (sa cut : Int) (ca pa qa : Nat) (m : List UInt8) (ia : I64 sa) (ic : I64 cut) (h1 : U64 ca) (h2 : U64 pa) (h3 : U64 qa) (hm : m.length ≤ 140737488351232) (w : World) :
    Calls Try.prog 17 #[.agg #[.int .i64 sa, .int .u64 ca, .int .u64 pa, .int .u64 qa], .int .i64 cut, .string ⟨m.toArray⟩] w fun e w' => e = .returned (.bool true) ∧ New w w' := by
  have xa := fun w => pick17_any sa 3 w ia (by omega) (by omega)
  have la := pk_lt sa 3 (by omega)
  clear ia
  generalize pk sa 3 = na at *
  have h2' : U64 (pee (1 + na) pa) := by unfold pee; split; exact (by unfold U64; omega); exact h2
  have HLa := lay_ok (1 + na) ca (pee (1 + na) pa) qa (by omega) (okL_pee _ _ (by omega) (by omega))
  have hT := outT_flat _ _ _ _ (by omega) h1 h2' h3 (okL_pee (1 + na) pa (by omega) (by omega))
  have hlen : (flat [1 + na, ca, pee (1 + na) pa, qa]).length = 32 := by rw [flat_length]; rfl
  clear h1 h2 h3 h2'
  have wra : IntKind.i64.wrap (1 + (na : Int)) = ((1 + na : Nat) : Int) := by rw [IntWalk.i64_in _ ⟨by omega, by omega⟩]; omega
  generalize flat [1 + na, ca, pee (1 + na) pa, qa] = s at *
  have xc : ∀ w, Calls Try.prog 54 #[.int .i64 cut, .int .i64 32] w fun e w' => e = .returned (.int .i64 (pk cut 32)) ∧ w = w' := fun w => pick17_any cut 32 w ic (by omega) (by omega)
  have lc := pk_lt cut 32 (by omega)
  clear ic
  generalize pk cut 32 = kc at *
  have HT1 := take_any (s.take kc, false) rfl
  rw [outT_bad (by simp; omega)] at HT1
  have HT2 := take_any (s ++ m, false) rfl
  have htk := ext_take s kc
  have hap := str_append s m
  have hsm : s.length + m.length ≤ 9223372036854775807 := by omega
  have hkc : (kc : Int) ≤ (s.length : Int) := by omega
  have hne : s.isEmpty = false := by
    rcases s with _ | ⟨c, s⟩
    · cases hlen
    · rfl
  have hOUT : (m = [] ∧ ∃ x0 x1 x2 x3 : Int, outT (s ++ m, false) = .tuple #[.agg #[.int .i64 x0, .int .u64 x1, .int .u64 x2, .int .u64 x3], .int .i64 0]) ∨ (m.isEmpty = false ∧ outT (s ++ m, false) = .tuple #[.agg #[.int .i64 0, .int .u64 0, .int .u64 0, .int .u64 0], .int .i64 171]) := by
    rcases m with _ | ⟨c, m⟩
    · exact .inl ⟨rfl, _, _, _, _, by rw [List.append_nil]; exact hT⟩
    · exact .inr ⟨rfl, outT_bad (by simp; omega)⟩
  have HO := Lib.hid hOUT
  clear hOUT hT
  generalize 1 + na = ma at *
  clear la
  go_enter Try.func17, Try.ntmps17
  have B0 := (All.nil (T := 36) w).alloc #[.int .i64 sa, .int .u64 ca, .int .u64 pa, .int .u64 qa]
  have n0 : New w (w.alloc (.cells #[.int .i64 sa, .int .u64 ca, .int .u64 pa, .int .u64 qa] 36)) := (Keeps.refl _ w).alloc _
  go_wp2_with fail
  refine (awake17_any _).mono ?_
  rintro e w1 ⟨rfl, k1⟩
  have B1 := B0.keep k1
  have n1 := n0.then k1 (fun _ h => .inl h)
  clear B0 n0
  generalize hA : w.heap.size = A at *
  have hA0 : w.heap.size ≤ A := by omega
  clear hA
  have ba : w1.heap[A]? = some (.cells #[.int .i64 sa, .int .u64 ca, .int .u64 pa, .int .u64 qa] 36 (0, 0)) := B1 _ (.head _)
  clear B1 k1
  have ca1 := cells4 ba
  go_wp2_with fail
  refine (xa _).mono ?_
  rintro e w' ⟨rfl, rfl⟩
  go_upto_region 3 with (fail)
  have n3 := n1.set hA0 0 (.int .i64 ma)
  have ba3 := st1_blk ba 0 (.int .i64 ma) _ _ _ _ rfl
  generalize w1.setCell _ _ = w3 at *
  clear ca1 ba n1 xa wra
  have ca3 := cells4 ba3
  by_cases hma : ma = 1
  · subst hma
    have e1 : pee 1 pa = 0 := rfl
    rw [e1] at HLa
    clear e1
    go_wp2_with fail
    have n5 := n3.set hA0 2 (.int .u64 0)
    have ba5 := st1_blk ba3 2 (.int .u64 0) _ _ _ _ rfl
    generalize w3.setCell _ _ = w5 at *
    clear ca3 ba3 n3
    have ca5 := cells4 ba5
    refine (HLa _).mono ?_
    rintro e w6 ⟨rfl, k6⟩
    have n6 := n5.then k6 (fun _ h => .inl h)
    clear ba5 n5 k6 ca5 HLa
    go_wp2_with fail
    refine (xc _).mono ?_
    rintro e w' ⟨rfl, rfl⟩
    go_wp2_with fail
    refine (HT1 _).mono ?_
    rintro e w7 ⟨rfl, k7⟩
    have n7 := n6.then k7 (fun _ h => .inl h)
    have b7 := heap_alloc_new w7 (.cells #[.int .i64 0, .int .u64 0, .int .u64 0, .int .u64 0] 36)
    have n7a := n7.alloc (.cells #[.int .i64 0, .int .u64 0, .int .u64 0, .int .u64 0] 36)
    clear n6 k7 HT1 xc htk
    go_wp2_with fail
    generalize w7.alloc (.cells #[.int .i64 0, .int .u64 0, .int .u64 0, .int .u64 0] 36) = w8 at *
    generalize w7.heap.size = C at *
    refine (HT2 _).mono ?_
    rintro e w9 ⟨rfl, k9⟩
    have b9 := k9.kept b7 (fun h => h)
    have n9 := n7a.then k9 (fun _ h => .inl h)
    have l9 := (Array.getElem?_eq_some_iff.1 b9).1
    have c9 := cells4 b9
    clear n7 n7a b7 b9 HT2 hap
    rcases HO.out with ⟨hm0, x0, x1, x2, x3, ho⟩ | ⟨hm0, ho⟩
    · subst hm0
      rw [ho]
      clear ho HO
      go_wp2_with fail
      go_ret
      exact ⟨rfl, n9.alloc _⟩
    · rw [ho]
      clear ho HO
      go_wp2_with fail
      go_ret
      exact ⟨rfl, n9.alloc _⟩
  · have e1 : pee ma pa = pa := if_neg hma
    rw [e1] at HLa
    have e2 : ((ma : Int) == 1) = false := by simp; omega
    clear e1
    go_wp2_with fail
    have n5 := n3
    have ba5 := ba3
    generalize w3 = w5 at *
    have ca5 := cells4 ba5
    clear ca3 ba3 n3
    refine (HLa _).mono ?_
    rintro e w6 ⟨rfl, k6⟩
    have n6 := n5.then k6 (fun _ h => .inl h)
    clear ba5 n5 k6 ca5 HLa
    go_wp2_with fail
    refine (xc _).mono ?_
    rintro e w' ⟨rfl, rfl⟩
    go_wp2_with fail
    refine (HT1 _).mono ?_
    rintro e w7 ⟨rfl, k7⟩
    have n7 := n6.then k7 (fun _ h => .inl h)
    have b7 := heap_alloc_new w7 (.cells #[.int .i64 0, .int .u64 0, .int .u64 0, .int .u64 0] 36)
    have n7a := n7.alloc (.cells #[.int .i64 0, .int .u64 0, .int .u64 0, .int .u64 0] 36)
    clear n6 k7 HT1 xc htk
    go_wp2_with fail
    generalize w7.alloc (.cells #[.int .i64 0, .int .u64 0, .int .u64 0, .int .u64 0] 36) = w8 at *
    generalize w7.heap.size = C at *
    refine (HT2 _).mono ?_
    rintro e w9 ⟨rfl, k9⟩
    have b9 := k9.kept b7 (fun h => h)
    have n9 := n7a.then k9 (fun _ h => .inl h)
    have l9 := (Array.getElem?_eq_some_iff.1 b9).1
    have c9 := cells4 b9
    clear n7 n7a b7 b9 HT2 hap
    rcases HO.out with ⟨hm0, x0, x1, x2, x3, ho⟩ | ⟨hm0, ho⟩
    · subst hm0
      rw [ho]
      clear ho HO
      go_wp2_with fail
      go_ret
      exact ⟨rfl, n9.alloc _⟩
    · rw [ho]
      clear ho HO
      go_wp2_with fail
      go_ret
      exact ⟨rfl, n9.alloc _⟩
end Go.Proofs.Ytclldibadmnppaa
