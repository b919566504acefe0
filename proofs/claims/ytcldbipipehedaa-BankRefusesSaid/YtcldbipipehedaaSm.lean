/-
  voussoirlaw10.same of two banks that hold the same; voussoirlaw10.awake.
-/
import Derived.Test.YtcldbipipehedaaTxt
import Derived.Test.YtcldbipipehedaaBDo
import Derived.Test.YtcldbipipehedaaCRf
namespace Go.Proofs.Ytcldbipipehedaa
open Go.RowKit Go.ChangeMaps
theorem Sg.hol {w0 w : World} {b n : Nat} {s : BkS} (h : Sg w0 w b n s) (hn : n ≤ 1000000) (d : List UInt8) (hd : d.length ≤ maxLen) :
    Calls Try.prog 52 #[.pointer (some ⟨b, 0, none⟩), .string ⟨d.toArray⟩] w fun e w' => ∃ A cap l, e = .returned (.slice A (l.length : Nat) cap) ∧ HoldL (s.bal d) l ∧ l.length ≤ n ∧ StrsO w' A l ∧ New w w' := by
  obtain ⟨ma, sa, h1, _⟩ := h
  exact hol_any b ma sa n s d hd hn w h1
theorem acL_len9 (k : Nat) : (acL k).length ≤ 9223372036854775807 := Nat.le_trans (acL_len k) (by decide)
theorem dbL_len9 (k : Nat) : (dbL k).length ≤ 9223372036854775807 := Nat.le_trans (dbL_len k) (by decide)
set_option maxHeartbeats 8000000 in
set_option maxRecDepth 100000 in
theorem same_any (w0 : World) (a b n : Nat) (s : BkS) (hn : n ≤ 1000000) (w : World) (h1 : Sg w0 w a n s) (h2 : Sg w0 w b n s) :
    Calls Try.prog 53 #[.pointer (some ⟨a, 0, none⟩), .pointer (some ⟨b, 0, none⟩)] w fun e w' => e = .returned (.bool true) ∧ New w w' := by
  go_enter Try.func53, Try.ntmps53
  go_wp2_with fail
  go_loopw [5] (fun i wr => ∃ k : Nat, k ≤ 4 ∧ i = .int .i64 k ∧ New w wr ∧ Sg w0 wr a n s ∧ Sg w0 wr b n s)
    (fun i _ => 4 - (intOf i).toNat)
  case atStart => exact ⟨0, by omega, rfl, New.refl w, h1, h2⟩
  case round =>
    clear h1 h2
    obtain ⟨k, hk, rfl, hw, h1, h2⟩ := hrel
    have hk0 : (0 : Int) ≤ (k : Int) := Int.natCast_nonneg _
    by_cases hk4 : k < 4
    · have DM := fun w => denomB_any (k : Int) ⟨by omega, by omega⟩ w
      have hl1 := dbL_len9 (pk (k : Int) 4)
      generalize dbL (pk (k : Int) 4) = d at *
      go_wp2_with fail
      refine (DM _).mono ?_
      rintro e z1 ⟨rfl, y1⟩
      have a1 := h1.keep y1
      have b1 := h2.keep y1
      have n1 := hw.then y1 (fun _ h => h.elim)
      clear h1 h2 y1 hw
      go_wp2_with fail
      refine (a1.sup d hl1).mono ?_
      rintro e z2 ⟨rfl, rfl⟩
      go_wp2_with fail
      refine (DM _).mono ?_
      rintro e z2 ⟨rfl, y2⟩
      have a2 := a1.keep y2
      have b2 := b1.keep y2
      have n2 := n1.then y2 (fun _ h => h.elim)
      clear a1 b1 y2 n1
      go_wp2_with fail
      refine (b2.sup d hl1).mono ?_
      rintro e z3 ⟨rfl, rfl⟩
      go_wp2_with fail
      refine (DM _).mono ?_
      rintro e z3 ⟨rfl, y3⟩
      have a3 := a2.keep y3
      have b3 := b2.keep y3
      have n3 := n2.then y3 (fun _ h => h.elim)
      clear a2 b2 y3 n2
      go_wp2_with fail
      refine (a3.hol hn d hl1).mono ?_
      rintro e z4 ⟨A, ca, l, rfl, hA, hAn, sA, y4⟩
      have a4 := a3.keep y4
      have b4 := b3.keep y4
      have n4 := n3.then y4 (fun _ h => h.elim)
      clear a3 b3 y4 n3
      go_wp2_with fail
      refine (DM _).mono ?_
      rintro e z5 ⟨rfl, y5⟩
      have a5 := a4.keep y5
      have b5 := b4.keep y5
      have n5 := n4.then y5 (fun _ h => h.elim)
      have sA5 := sA.keep y5
      clear a4 b4 y5 n4 sA
      go_wp2_with fail
      refine (b5.hol hn d hl1).mono ?_
      rintro e z6 ⟨B, cb, l2, rfl, hB, hBn, sB, y6⟩
      obtain rfl := hold_uniq hA hB
      have a6 := a5.keep y6
      have b6 := b5.keep y6
      have n6 := n5.then y6 (fun _ h => h.elim)
      have sA6 := sA5.keep y6
      clear a5 b5 y6 n5 sA5 hB hBn
      have TS := texts_same A B ca cb l (by omega) z6 sA6 sB
      obtain ⟨len, hlen⟩ : ∃ m, m = l.length := ⟨_, rfl⟩
      rw [← hlen] at TS ⊢
      clear hlen
      go_wp2_with fail
      refine TS.mono ?_
      rintro e z7 ⟨rfl, y7⟩
      have a7 := a6.keep y7
      have b7 := b6.keep y7
      have n7 := n6.then y7 (fun _ h => h.elim)
      clear a6 b6 y7 n6 sA6 sB hA hAn TS
      go_wp2_with fail
      go_loopw [6] (fun i wr => ∃ m : Nat, m ≤ 5 ∧ i = .int .i64 m ∧ New w wr ∧ Sg w0 wr a n s ∧ Sg w0 wr b n s)
        (fun i _ => 5 - (intOf i).toNat)
      case atStart => exact ⟨0, by omega, rfl, n7, a7, b7⟩
      case round =>
        clear a7 b7 n7
        obtain ⟨m, hm, rfl, hw, h1, h2⟩ := hrel
        have hm0 : (0 : Int) ≤ (m : Int) := Int.natCast_nonneg _
        by_cases hm5 : m < 5
        · have AM := fun w => account_any (m : Int) ⟨by omega, by omega⟩ w
          have hl2 := acL_len9 (pk (m : Int) 5)
          generalize acL (pk (m : Int) 5) = x at *
          go_wp2_with fail
          refine (AM _).mono ?_
          rintro e z1 ⟨rfl, y1⟩
          have a1 := h1.keep y1
          have b1 := h2.keep y1
          have n1 := hw.then y1 (fun _ h => h.elim)
          clear h1 h2 y1 hw
          go_wp2_with fail
          refine (DM _).mono ?_
          rintro e z2 ⟨rfl, y2⟩
          have a2 := a1.keep y2
          have b2 := b1.keep y2
          have n2 := n1.then y2 (fun _ h => h.elim)
          clear a1 b1 y2 n1
          go_wp2_with fail
          refine (a2.bal d x hl1 hl2).mono ?_
          rintro e z3 ⟨rfl, rfl⟩
          go_wp2_with fail
          refine (AM _).mono ?_
          rintro e z3 ⟨rfl, y3⟩
          have a3 := a2.keep y3
          have b3 := b2.keep y3
          have n3 := n2.then y3 (fun _ h => h.elim)
          clear a2 b2 y3 n2
          go_wp2_with fail
          refine (DM _).mono ?_
          rintro e z4 ⟨rfl, y4⟩
          have a4 := a3.keep y4
          have b4 := b3.keep y4
          have n4 := n3.then y4 (fun _ h => h.elim)
          clear a3 b3 y4 n3
          go_wp2_with fail
          refine (b4.bal d x hl1 hl2).mono ?_
          rintro e z5 ⟨rfl, rfl⟩
          go_wp2_with fail
          go_roundw
          case rel => exact ⟨m + 1, by omega, by go_num, n4, a4, b4⟩
          case measure => simp [intOf]; omega
        · go_wp2_with fail
          go_roundw
          case rel => exact ⟨k + 1, by omega, by go_num, hw, h1, h2⟩
          case measure => simp [intOf]; omega
    · go_wp2_with fail
      go_ret
      exact ⟨rfl, hw⟩
end Go.Proofs.Ytcldbipipehedaa
