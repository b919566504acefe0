/-
  voussoirlaw02.CodecTakes: readers of any bytes answer every call as the document does: for every input the law returns true, and its arguments read as before. No condition.
-/
import Derived.Test.YtclldibadmnppaaCod6
namespace Go.Proofs.Ytclldibadmnppaa
open Go.RowKit

/-- ints lie in memory from an address on -/
def Ints (w : World) (a : Option Addr) (z : List Int) : Prop :=
  ∀ i x, z[i]? = some x → ∃ b o, a = some ⟨b, o, none⟩ ∧ b < w.heap.size ∧ I64 x ∧ w.cell? ⟨b, o + i, none⟩ = some (.int .i64 x)
theorem Ints.keep {w w' : World} {S : Nat → Prop} {a : Option Addr} {l : List Int} (h : Ints w a l) (k : Keeps S w w') (hS : ∀ b o, a = some ⟨b, o, none⟩ → ¬ S b) : Ints w' a l := by
  intro i x hx
  obtain ⟨b, o, ha, hb, hu, h0⟩ := h i x hx
  have hn := hS b o ha
  exact ⟨b, o, ha, Nat.lt_of_lt_of_le hb k.size, hu, by rw [k.cell (by exact hb) hn]; exact h0⟩

set_option maxHeartbeats 4000000 in
set_option maxRecDepth 100000 in
theorem takes_walk (s : List UInt8) (a : Option Addr) (len cap : Nat) (z : List Int) (w : World) (hz : z.length = len) (h63 : len ≤ 9223372036854775807) (h : Ints w a z) :
    Calls Try.prog 6 #[.string ⟨s.toArray⟩, .slice a len cap] w fun e w' => e = .returned (.bool true) ∧ New w w' := by
  go_enter Try.func6, Try.ntmps6
  go_wp2_with fail
  refine (awake_any w).mono ?_
  rintro e w1 ⟨rfl, k1⟩
  go_wp2_with fail
  refine (newReader_any s w1).mono ?_
  rintro e w2 ⟨rfl, r2, k2⟩
  go_wp2_with fail
  refine (newReader2_any s w2).mono ?_
  rintro e w3 ⟨rfl, r3, k3⟩
  have hb1 := k1.size
  have hb2 := k2.size
  have hlt := r2.lt
  have hr3 := k3.kept r2 (fun h => h)
  have kk : New w w3 := (k1.then k2 (fun _ h => h.elim)).then k3 (fun _ h => h.elim)
  have hab : w1.heap.size ≠ w2.heap.size := by omega
  have hB2 : w.heap.size ≤ w2.heap.size := by omega
  generalize w1.heap.size = A at *
  generalize w2.heap.size = B at *
  clear k1 k2 k3 r2 hlt hb2
  go_wp2_with fail
  go_loopw [8] (fun i wr => ∃ (k : Nat) (l : List UInt8) (bad : Bool), k ≤ len ∧ k ≤ 100 ∧ i = .int .i64 k ∧ Rd wr A l bad ∧ Rd2 wr B l bad ∧ New w wr)
    (fun i _ => len - (intOf i).toNat)
  case atStart => exact ⟨0, s, false, Nat.zero_le _, Nat.zero_le _, rfl, hr3, r3, kk⟩
  case round =>
    clear hr3 r3 kk
    obtain ⟨k, l, bad, hk, hk100, rfl, ra, rb, kw⟩ := hrel
    by_cases hlt : k < len ∧ k < 100
    · obtain ⟨hlt, hlt2⟩ := hlt
      obtain ⟨b, o, ha, hb, hu, c0⟩ := h k (z[k]'(by omega)) (List.getElem?_eq_getElem (by omega))
      have hbA : b ≠ A := by omega
      have hbB : b ≠ B := by omega
      generalize z[k] = x at *
      subst ha
      have cA := (kw.cell (p := ⟨b, o + k, none⟩) hb (fun h => h)).trans c0
      have hbw : b < wr.heap.size := Nat.lt_of_lt_of_le hb kw.size
      clear c0
      rcases Bool.eq_false_or_eq_true (x.tmod 3 == 0) with hx3 | hx3
      · go_wp2_with fail
        refine (rnum_any A l bad wr ra).mono ?_
        rintro e w1 ⟨rfl, ra1, k1⟩
        have rb1 : Rd2 w1 B l bad := k1.kept rb (fun h => hab h.symm)
        go_wp2_with fail
        refine (rnum2_any B l bad w1 rb1).mono ?_
        rintro e w2 ⟨rfl, rb2, k2⟩
        have ra2 : Rd w2 A _ _ := k2.kept ra1 (fun h => hab h)
        go_wp2_with fail
        refine (bad_any A _ _ w2 ra2).mono ?_
        rintro e w' ⟨rfl, rfl⟩
        go_wp2_with fail
        refine (bad2_any B _ _ w2 rb2).mono ?_
        rintro e w' ⟨rfl, rfl⟩
        go_wp2_with fail
        refine (end_any A _ _ w2 ra2).mono ?_
        rintro e w' ⟨rfl, rfl⟩
        go_wp2_with fail
        refine (end2_any B _ _ w2 rb2).mono ?_
        rintro e w' ⟨rfl, rfl⟩
        go_wp2_with fail
        go_roundw
        case rel => exact ⟨k + 1, _, _, by omega, by omega, by go_num, ra2, rb2, (kw.then k1 (fun _ h => .inr (by omega))).then k2 (fun _ h => .inr (by omega))⟩
        case measure => simp [intOf]; omega
      · go_wp2_with fail
        go_region_with (first
          | (go_at_call 34; (refine (rtext_any A l bad x _ (by exact ra)).mono ?_; rintro e w1 ⟨rfl, ra1, k0⟩; have k1 := k0.undrew; clear k0; have rb1 : Rd2 w1 B l bad := k1.kept rb (fun h => hab h.symm); have cA1 := (k1.cell (p := ⟨b, o + k, none⟩) hbw hbA).trans cA))
          | (go_at_call 35; refine (rtext2_any B l bad x _ (by exact rb1)).mono ?_; rintro e w2 ⟨rfl, rb2, k2⟩; have ra2 : Rd w2 A _ _ := k2.kept ra1 (fun h => hab h)))
        all_goals (
          go_wp2_with fail
          refine (bad_any A _ _ w2 ra2).mono ?_
          rintro e w' ⟨rfl, rfl⟩
          go_wp2_with fail
          refine (bad2_any B _ _ w2 rb2).mono ?_
          rintro e w' ⟨rfl, rfl⟩
          go_wp2_with fail
          refine (end_any A _ _ w2 ra2).mono ?_
          rintro e w' ⟨rfl, rfl⟩
          go_wp2_with fail
          refine (end2_any B _ _ w2 rb2).mono ?_
          rintro e w' ⟨rfl, rfl⟩
          go_wp2_with fail
          go_roundw
          case rel => exact ⟨k + 1, _, _, by omega, by omega, by go_num, ra2, rb2, (kw.then k1 (fun _ h => .inr (by omega))).then k2 (fun _ h => .inr (by omega))⟩
          case measure => simp [intOf]; omega)
    · by_cases hkl : k < len
      · obtain rfl : k = 100 := by omega
        go_wp2_with fail
        go_ret
        exact ⟨rfl, kw⟩
      · obtain rfl : k = len := by omega
        go_wp2_with fail
        go_ret
        exact ⟨rfl, kw⟩
end Go.Proofs.Ytclldibadmnppaa
