/-
  voussoirlaw02.CodecStays: the walk.
-/
import Derived.Test.YtclldibadmnppaaOpen
import Derived.WalkLawsBesides
import Derived.BigQuiet
import Derived.Deep.QuietTactic
namespace Go.Proofs.Ytclldibadmnppaa
open Go.RowKit

theorem IntsAt.keep {w w' : World} {S : Nat → Prop} {a : Option Addr} {l : List Int} (h : IntsAt w a l) (k : Keeps S w w') (hS : ∀ b o, a = some ⟨b, o, none⟩ → ¬ S b) : IntsAt w' a l := by
  intro i x hx
  obtain ⟨b, o, ha, hb, hu, h0⟩ := h i x hx
  have hn := hS b o ha
  exact ⟨b, o, ha, Nat.lt_of_lt_of_le hb k.size, hu, by rw [k.cell (by exact hb) hn]; exact h0⟩

theorem text_le (l : List UInt8) (x : Int) (h : textBad l false x = false) : ((textOut l false x).length : Int) ≤ x := by
  have h1 : ¬ x < (val (l.take 4) : Int) := by
    intro h2
    simp [textBad, h2] at h
  rw [textOut, h]
  simp only [Bool.false_eq_true, if_false, List.length_take]
  omega

set_option maxHeartbeats 4000000 in
set_option maxRecDepth 100000 in
theorem stays_walk (s : List UInt8) (a : Option Addr) (len cap : Nat) (z : List Int) (w : World) (hz : z.length = len) (h63 : len ≤ 9223372036854775807) (h : IntsAt w a z) :
    Calls Try.prog 13 #[.string ⟨s.toArray⟩, .slice a len cap] w fun e w' => e = .returned (.bool true) ∧ New w w' := by
  go_enter Try.func13, Try.ntmps13
  go_wp2_with fail
  refine (awake_any w).mono ?_
  rintro e w1 ⟨rfl, k1⟩
  go_wp2_with fail
  refine (newReader_any s w1).mono ?_
  rintro e w2 ⟨rfl, r2, k2⟩
  have hb1 := k1.size
  have kk : New w w2 := k1.then k2 (fun _ h => .inl h)
  generalize w1.heap.size = A at *
  clear k1 k2
  go_wp2_with fail
  go_loopw [7, 8] (fun bv i wr => ∃ (k : Nat) (l : List UInt8) (bad : Bool), k ≤ len ∧ k ≤ 100 ∧ i = .int .i64 k ∧ bv = .bool bad ∧ Rd wr A l bad ∧ New w wr)
    (fun _ i _ => len - (intOf i).toNat)
  case atStart => exact ⟨0, s, false, Nat.zero_le _, Nat.zero_le _, rfl, rfl, r2, kk⟩
  case round =>
    clear r2 kk
    obtain ⟨k, l, bad, hk, hk100, rfl, rfl, ra, kw⟩ := hrel
    by_cases hlt : k < len ∧ k < 100
    · obtain ⟨hlt, hlt2⟩ := hlt
      obtain ⟨b, o, ha, hb, hu, c0⟩ := h k (z[k]'(by omega)) (List.getElem?_eq_getElem (by omega))
      have hbA : b ≠ A := by omega
      generalize z[k] = x at *
      subst ha
      have cA := (kw.cell (p := ⟨b, o + k, none⟩) hb (fun h => h)).trans c0
      have hbw : b < wr.heap.size := Nat.lt_of_lt_of_le hb kw.size
      clear c0
      by_cases hx : x < 0
      · cases bad
        · rcases Bool.eq_false_or_eq_true (cutBad l false 8) with hb2 | hb2 <;> have HB := Lib.hid hb2 <;> clear hb2
          · have en : numOut l false = 0 := by rw [numOut, HB.out]; rfl
            have EN := Lib.hid en
            clear en
            go_wp2_with fail
            refine (rnum_any A l false wr ra).mono ?_
            rw [EN.out, HB.out]
            rintro e w3 ⟨rfl, ra3, k3⟩
            have kw3 : New w w3 := kw.then k3 (fun _ h => .inr (by omega))
            have cA3 := (k3.cell (p := ⟨b, o + k, none⟩) hbw hbA).trans cA
            clear cA kw k3 ra
            go_wp2_with fail
            refine (bad_any A _ _ w3 ra3).mono ?_
            rintro e w' ⟨rfl, rfl⟩
            go_wp2_with fail
            refine (end_any A _ _ w3 ra3).mono ?_
            rintro e w' ⟨rfl, rfl⟩
            go_wp2_with fail
            refine (bad_any A _ _ w3 ra3).mono ?_
            rintro e w' ⟨rfl, rfl⟩
            go_wp2_with fail
            go_roundw
            case rel => exact ⟨k + 1, _, _, by omega, by omega, by go_num, rfl, ra3, kw3⟩
            case measure => simp [intOf]; omega
          · obtain ⟨n, en⟩ : ∃ n, numOut l false = n := ⟨_, rfl⟩
            have EN := Lib.hid en
            clear en
            go_wp2_with fail
            refine (rnum_any A l false wr ra).mono ?_
            rw [EN.out, HB.out]
            rintro e w3 ⟨rfl, ra3, k3⟩
            have kw3 : New w w3 := kw.then k3 (fun _ h => .inr (by omega))
            have cA3 := (k3.cell (p := ⟨b, o + k, none⟩) hbw hbA).trans cA
            clear cA kw k3 ra
            go_wp2_with fail
            refine (bad_any A _ _ w3 ra3).mono ?_
            rintro e w' ⟨rfl, rfl⟩
            go_wp2_with fail
            refine (bad_any A _ _ w3 ra3).mono ?_
            rintro e w' ⟨rfl, rfl⟩
            go_wp2_with fail
            go_roundw
            case rel => exact ⟨k + 1, _, _, by omega, by omega, by go_num, rfl, ra3, kw3⟩
            case measure => simp [intOf]; omega
        · have hb2 : cutBad l true 8 = true := by simp [cutBad]
          have HB := Lib.hid hb2
          clear hb2
          have en : numOut l true = 0 := by rw [numOut, HB.out]; rfl
          have EN := Lib.hid en
          clear en
          go_wp2_with fail
          refine (rnum_any A l true wr ra).mono ?_
          rw [EN.out, HB.out]
          rintro e w3 ⟨rfl, ra3, k3⟩
          have kw3 : New w w3 := kw.then k3 (fun _ h => .inr (by omega))
          have cA3 := (k3.cell (p := ⟨b, o + k, none⟩) hbw hbA).trans cA
          clear cA kw k3 ra
          go_wp2_with fail
          refine (bad_any A _ _ w3 ra3).mono ?_
          rintro e w' ⟨rfl, rfl⟩
          go_wp2_with fail
          refine (bad_any A _ _ w3 ra3).mono ?_
          rintro e w' ⟨rfl, rfl⟩
          go_wp2_with fail
          refine (end_any A _ _ w3 ra3).mono ?_
          rintro e w' ⟨rfl, rfl⟩
          go_wp2_with fail
          refine (bad_any A _ _ w3 ra3).mono ?_
          rintro e w' ⟨rfl, rfl⟩
          go_wp2_with fail
          go_roundw
          case rel => exact ⟨k + 1, _, _, by omega, by omega, by go_num, rfl, ra3, kw3⟩
          case measure => simp [intOf]; omega
      · cases bad
        · rcases Bool.eq_false_or_eq_true (textBad l false x) with hb2 | hb2 <;> have HB := Lib.hid hb2 <;> clear hb2
          · have en : textOut l false x = [] := by rw [textOut, HB.out]; rfl
            have EN := Lib.hid en
            clear en
            go_wp2_with fail
            refine (rtext_any A l false x wr ra).mono ?_
            rw [EN.out, HB.out]
            rintro e w3 ⟨rfl, ra3, k3⟩
            have kw3 : New w w3 := kw.then k3 (fun _ h => .inr (by omega))
            have cA3 := (k3.cell (p := ⟨b, o + k, none⟩) hbw hbA).trans cA
            clear cA kw k3 ra
            go_wp2_with fail
            refine (bad_any A _ _ w3 ra3).mono ?_
            rintro e w' ⟨rfl, rfl⟩
            go_wp2_with fail
            refine (end_any A _ _ w3 ra3).mono ?_
            rintro e w' ⟨rfl, rfl⟩
            go_wp2_with fail
            refine (bad_any A _ _ w3 ra3).mono ?_
            rintro e w' ⟨rfl, rfl⟩
            go_wp2_with fail
            go_roundw
            case rel => exact ⟨k + 1, _, _, by omega, by omega, by go_num, rfl, ra3, kw3⟩
            case measure => simp [intOf]; omega
          · have hle : ((textOut l false x).length : Int) ≤ x := text_le l x HB.out
            obtain ⟨t, en⟩ : ∃ t, textOut l false x = t := ⟨_, rfl⟩
            rw [en] at hle
            have EN := Lib.hid en
            clear en
            go_wp2_with fail
            refine (rtext_any A l false x wr ra).mono ?_
            rw [EN.out, HB.out]
            rintro e w3 ⟨rfl, ra3, k3⟩
            have kw3 : New w w3 := kw.then k3 (fun _ h => .inr (by omega))
            have cA3 := (k3.cell (p := ⟨b, o + k, none⟩) hbw hbA).trans cA
            clear cA kw k3 ra
            go_wp2_with fail
            refine (bad_any A _ _ w3 ra3).mono ?_
            rintro e w' ⟨rfl, rfl⟩
            go_wp2_with fail
            refine (bad_any A _ _ w3 ra3).mono ?_
            rintro e w' ⟨rfl, rfl⟩
            go_wp2_with fail
            go_roundw
            case rel => exact ⟨k + 1, _, _, by omega, by omega, by go_num, rfl, ra3, kw3⟩
            case measure => simp [intOf]; omega
        · have hb2 : textBad l true x = true := by simp [cutBad, textBad]
          have HB := Lib.hid hb2
          clear hb2
          have en : textOut l true x = [] := by rw [textOut, HB.out]; rfl
          have EN := Lib.hid en
          clear en
          go_wp2_with fail
          refine (rtext_any A l true x wr ra).mono ?_
          rw [EN.out, HB.out]
          rintro e w3 ⟨rfl, ra3, k3⟩
          have kw3 : New w w3 := kw.then k3 (fun _ h => .inr (by omega))
          have cA3 := (k3.cell (p := ⟨b, o + k, none⟩) hbw hbA).trans cA
          clear cA kw k3 ra
          go_wp2_with fail
          refine (bad_any A _ _ w3 ra3).mono ?_
          rintro e w' ⟨rfl, rfl⟩
          go_wp2_with fail
          refine (bad_any A _ _ w3 ra3).mono ?_
          rintro e w' ⟨rfl, rfl⟩
          go_wp2_with fail
          refine (end_any A _ _ w3 ra3).mono ?_
          rintro e w' ⟨rfl, rfl⟩
          go_wp2_with fail
          refine (bad_any A _ _ w3 ra3).mono ?_
          rintro e w' ⟨rfl, rfl⟩
          go_wp2_with fail
          go_roundw
          case rel => exact ⟨k + 1, _, _, by omega, by omega, by go_num, rfl, ra3, kw3⟩
          case measure => simp [intOf]; omega
    · by_cases hkl : k < len
      · obtain rfl : k = 100 := by omega
        go_wp2_with fail
        go_ret
        exact ⟨rfl, kw⟩
      · obtain rfl : k = len := by omega
        go_wp2_with fail
        go_ret
        exact ⟨rfl, kw⟩
end Go.Proofs.Ytclldibadmnppaa
