/-
  voussoirlaw19.CoinHomes: the walk.
-/
import Derived.Test.YtcldbipipehedaaAwl
namespace Go.Proofs.Ytcldbipipehedaa
open Go.RowKit Go.ChangeMaps
set_option maxHeartbeats 4000000 in
set_option maxRecDepth 100000 in
theorem homes_walk (c o : Nat) (d : List UInt8) (hc : U64 c) (ho : U64 o) (hd : d.length ≤ 9000000000000000000) (w : World) :
    Calls Try.prog 3 #[.int .u64 c, .int .u64 o, .string ⟨d.toArray⟩] w fun e w' => e = .returned (.bool true) ∧ New w w' := by
  have V := fun w => vou_any c hc d hd w
  have H1 := fun w => home_any c hc (vouL c d) w
  rw [isHome_vou, homeL_vou] at H1
  have H2 := fun w => home_any o ho (vouL c d) w
  rw [isHome_vou_iff] at H2
  have H3 := fun w => home_any c hc d w
  have E1 := fun w => esc_any c hc w
  have E2 := fun w => esc_any o ho w
  have HLn : (homeL c d).length ≤ 9000000000000000000 := by unfold homeL; split <;> simp <;> omega
  have V2 := fun w => vou_any c hc (homeL c d) HLn w
  have Q : (((c : Int) == (o : Int)) = true ∧ decide (c = o) = true ∧ escL c = escL o) ∨ (((c : Int) == (o : Int)) = false ∧ decide (c = o) = false ∧ (escL c == escL o) = false) := by
    by_cases h : c = o
    · left; subst h; simp
    · right
      refine ⟨by simp; omega, by simp [h], ?_⟩
      simp only [beq_eq_false_iff_ne]
      exact fun e => h (escL_inj e)
  generalize homeL o (vouL c d) = hx at *
  generalize vouL c d = v at *
  generalize escL c = e1 at *
  generalize escL o = e2 at *
  clear HLn hd
  rcases hh : isHome c d with _ | _
  · rw [hh, homeL_no hh] at H3
    clear V2 hh
    rcases Q with ⟨q1, q2, rfl⟩ | ⟨q1, q2, q3⟩
    · rw [q2] at H2
      clear q2
      go_enter Try.func3, Try.ntmps3
      go_wp2_with fail
      refine (awake_any _).mono ?_
      rintro e w1 ⟨rfl, n1⟩
      go_wp2_with fail
      refine (V _).mono ?_
      rintro e w2 ⟨rfl, k2⟩
      have n2 := n1.then k2 (fun _ h => h.elim)
      clear n1 k2 V
      go_wp2_with fail
      refine (H1 _).mono ?_
      rintro e w3 ⟨rfl, k3⟩
      have n3 := n2.then k3 (fun _ h => h.elim)
      clear n2 k3 H1
      go_wp2_with fail
      refine (H2 _).mono ?_
      rintro e w4 ⟨rfl, k4⟩
      have n4 := n3.then k4 (fun _ h => h.elim)
      clear n3 k4 H2
      go_wp2_with fail
      refine (H3 _).mono ?_
      rintro e w5 ⟨rfl, k5⟩
      have n5 := n4.then k5 (fun _ h => h.elim)
      clear n4 k5 H3
      go_wp2_with fail
      refine (E1 _).mono ?_
      rintro e w7 ⟨rfl, k7⟩
      have n7 := n5.then k7 (fun _ h => h.elim)
      go_wp2_with fail
      refine (E2 _).mono ?_
      rintro e w8 ⟨rfl, k8⟩
      have n8 := n7.then k8 (fun _ h => h.elim)
      go_wp2_with fail
      go_ret
      exact ⟨by first | rfl | simp, n8⟩
    · rw [q2] at H2
      clear q2
      go_enter Try.func3, Try.ntmps3
      go_wp2_with fail
      refine (awake_any _).mono ?_
      rintro e w1 ⟨rfl, n1⟩
      go_wp2_with fail
      refine (V _).mono ?_
      rintro e w2 ⟨rfl, k2⟩
      have n2 := n1.then k2 (fun _ h => h.elim)
      clear n1 k2 V
      go_wp2_with fail
      refine (H1 _).mono ?_
      rintro e w3 ⟨rfl, k3⟩
      have n3 := n2.then k3 (fun _ h => h.elim)
      clear n2 k3 H1
      go_wp2_with fail
      refine (H2 _).mono ?_
      rintro e w4 ⟨rfl, k4⟩
      have n4 := n3.then k4 (fun _ h => h.elim)
      clear n3 k4 H2
      go_wp2_with fail
      refine (H3 _).mono ?_
      rintro e w5 ⟨rfl, k5⟩
      have n5 := n4.then k5 (fun _ h => h.elim)
      clear n4 k5 H3
      go_wp2_with fail
      refine (E1 _).mono ?_
      rintro e w7 ⟨rfl, k7⟩
      have n7 := n5.then k7 (fun _ h => h.elim)
      go_wp2_with fail
      refine (E2 _).mono ?_
      rintro e w8 ⟨rfl, k8⟩
      have n8 := n7.then k8 (fun _ h => h.elim)
      go_wp2_with fail
      go_ret
      exact ⟨by first | rfl | simp, n8⟩
  · have hb := homeL_back hh
    rw [hh] at H3
    rw [hb] at V2
    clear hb hh
    generalize homeL c d = hy at *
    rcases Q with ⟨q1, q2, rfl⟩ | ⟨q1, q2, q3⟩
    · rw [q2] at H2
      clear q2
      go_enter Try.func3, Try.ntmps3
      go_wp2_with fail
      refine (awake_any _).mono ?_
      rintro e w1 ⟨rfl, n1⟩
      go_wp2_with fail
      refine (V _).mono ?_
      rintro e w2 ⟨rfl, k2⟩
      have n2 := n1.then k2 (fun _ h => h.elim)
      clear n1 k2 V
      go_wp2_with fail
      refine (H1 _).mono ?_
      rintro e w3 ⟨rfl, k3⟩
      have n3 := n2.then k3 (fun _ h => h.elim)
      clear n2 k3 H1
      go_wp2_with fail
      refine (H2 _).mono ?_
      rintro e w4 ⟨rfl, k4⟩
      have n4 := n3.then k4 (fun _ h => h.elim)
      clear n3 k4 H2
      go_wp2_with fail
      refine (H3 _).mono ?_
      rintro e w5 ⟨rfl, k5⟩
      have n5 := n4.then k5 (fun _ h => h.elim)
      clear n4 k5 H3
      go_wp2_with fail
      refine (V2 _).mono ?_
      rintro e w6 ⟨rfl, k6⟩
      have n6 := n5.then k6 (fun _ h => h.elim)
      clear n5 k6 V2
      go_wp2_with fail
      refine (E1 _).mono ?_
      rintro e w7 ⟨rfl, k7⟩
      have n7 := n6.then k7 (fun _ h => h.elim)
      go_wp2_with fail
      refine (E2 _).mono ?_
      rintro e w8 ⟨rfl, k8⟩
      have n8 := n7.then k8 (fun _ h => h.elim)
      go_wp2_with fail
      go_ret
      exact ⟨by first | rfl | simp, n8⟩
    · rw [q2] at H2
      clear q2
      go_enter Try.func3, Try.ntmps3
      go_wp2_with fail
      refine (awake_any _).mono ?_
      rintro e w1 ⟨rfl, n1⟩
      go_wp2_with fail
      refine (V _).mono ?_
      rintro e w2 ⟨rfl, k2⟩
      have n2 := n1.then k2 (fun _ h => h.elim)
      clear n1 k2 V
      go_wp2_with fail
      refine (H1 _).mono ?_
      rintro e w3 ⟨rfl, k3⟩
      have n3 := n2.then k3 (fun _ h => h.elim)
      clear n2 k3 H1
      go_wp2_with fail
      refine (H2 _).mono ?_
      rintro e w4 ⟨rfl, k4⟩
      have n4 := n3.then k4 (fun _ h => h.elim)
      clear n3 k4 H2
      go_wp2_with fail
      refine (H3 _).mono ?_
      rintro e w5 ⟨rfl, k5⟩
      have n5 := n4.then k5 (fun _ h => h.elim)
      clear n4 k5 H3
      go_wp2_with fail
      refine (V2 _).mono ?_
      rintro e w6 ⟨rfl, k6⟩
      have n6 := n5.then k6 (fun _ h => h.elim)
      clear n5 k6 V2
      go_wp2_with fail
      refine (E1 _).mono ?_
      rintro e w7 ⟨rfl, k7⟩
      have n7 := n6.then k7 (fun _ h => h.elim)
      go_wp2_with fail
      refine (E2 _).mono ?_
      rintro e w8 ⟨rfl, k8⟩
      have n8 := n7.then k8 (fun _ h => h.elim)
      go_wp2_with fail
      go_ret
      exact ⟨by first | rfl | simp, n8⟩
end Go.Proofs.Ytcldbipipehedaa
