/-
  voussoirlaw02.CodecForth: the walk, and the plain law beneath: what is taken up is laid as the same bytes.
-/
import Derived.Test.YtclldibadmnppaaOpen
import Derived.WalkLawsBesides
namespace Go.Proofs.Ytclldibadmnppaa
open Go.RowKit

/-- what a reader takes by a text, is what a writer lays by it -/
theorem text_forth (l : List UInt8) (most : Int) (h : textBad l false most = false) : l = (be 4 (textOut l false most).length ++ textOut l false most) ++ textRest l false most := by
  have hc : cutBad l false 4 = false := by
    cases hc : cutBad l false 4
    · rfl
    · simp [textBad, hc] at h
  have hl : 4 ≤ l.length := by simpa [cutBad] using hc
  have hr : ¬ (l.drop 4).length < val (l.take 4) := by
    intro h2
    simp only [textBad, decide_eq_true h2, Bool.or_true] at h
    cases h
  have h4 : (l.take 4).length = 4 := by rw [List.length_take]; omega
  rw [textOut, textRest, hc, h]
  simp only [Bool.false_eq_true, if_false]
  have e : ((l.drop 4).take (val (l.take 4))).length = val (l.take 4) := by rw [List.length_take]; omega
  rw [e]
  have e2 : be 4 (val (l.take 4)) = l.take 4 := by have := be_val (l.take 4); rw [h4] at this; exact this
  rw [e2, List.append_assoc, List.take_append_drop, List.take_append_drop]
theorem num_forth (l : List UInt8) (h : cutBad l false 8 = false) : l = be 8 (numOut l false) ++ cutRest l false 8 := by
  have hl : 8 ≤ l.length := by simpa [cutBad] using h
  have h8 : (l.take 8).length = 8 := by rw [List.length_take]; omega
  rw [numOut, cutRest, h]
  simp only [Bool.false_eq_true, if_false]
  have e2 : be 8 (val (l.take 8)) = l.take 8 := by have := be_val (l.take 8); rw [h8] at this; exact this
  rw [e2, List.take_append_drop]
theorem numOut_lt (l : List UInt8) (bad : Bool) : U64 (numOut l bad) := by
  unfold numOut
  split
  · unfold U64; omega
  · have h := val_lt (l.take 8)
    have h2 : 256 ^ (l.take 8).length ≤ 256 ^ 8 := Nat.pow_le_pow_right (by omega) (by rw [List.length_take]; omega)
    have h3 : (256 : Nat) ^ 8 = 2 ^ 64 := by decide
    unfold U64; omega

theorem wr_step {B : Nat} {wr w2 : World} {v v2 : Value} (hB : B < wr.heap.size) (hv : ∀ g, v.ownBlock = some g → B ≤ g) (k2 : Keeps (Wrs B v) wr w2) (m2 : Moved wr w2 v v2) :
    (∀ g, v2.ownBlock = some g → B ≤ g) ∧ Keeps (fun j => B ≤ j) wr w2 := by
  refine ⟨?_, k2.mono ?_⟩
  · intro g hg
    rcases m2 with e | ⟨g', e, h1, _⟩
    · exact hv g (e.symm.trans hg)
    · rw [e] at hg
      cases hg
      omega
  · rintro j _ (rfl | e)
    · exact Nat.le_refl _
    · exact hv j e.symm
theorem wr_keep {B : Nat} {w w' : World} {S : Nat → Prop} {v : Value} {l : List UInt8} (h : Wr w B v l) (k : Keeps S w w') (hB : ¬ S B) (hS : ∀ g, v.ownBlock = some g → ¬ S g) : Wr w' B v l :=
  ⟨k.kept h.blk hB, k.owns h.own hS, h.ne⟩

set_option maxHeartbeats 4000000 in
set_option maxRecDepth 100000 in
theorem forth_walk (s : List UInt8) (a : Option Addr) (len cap : Nat) (z : List Bool) (w : World) (hs : s.length ≤ 140737488351232) (hz : z.length = len) (h63 : len ≤ 9223372036854775807) (h : BoolsAt w a z) :
    Calls Try.prog 8 #[.string ⟨s.toArray⟩, .slice a len cap] w fun e w' => e = .returned (.bool true) ∧ New w w' := by
  go_enter Try.func8, Try.ntmps8
  go_wp2_with fail
  refine (awake_any w).mono ?_
  rintro e w1 ⟨rfl, k1⟩
  go_wp2_with fail
  refine (newReader_any s w1).mono ?_
  rintro e w2 ⟨rfl, r2, k2⟩
  go_wp2_with fail
  refine (newWriter_any w2).mono ?_
  rintro e w3 ⟨rfl, wr3, k3⟩
  have hb1 := k1.size
  have hb2 := k2.size
  have hlt := r2.lt
  have r3 : Rd w3 w1.heap.size s false := k3.kept r2 (fun h => h)
  have kk : New w w3 := (k1.then k2 (fun _ h => .inl h)).then k3 (fun _ h => .inl h)
  have hAB : w1.heap.size < w2.heap.size := by omega
  have hb : w.heap.size ≤ w2.heap.size := by omega
  generalize w1.heap.size = A at *
  generalize w2.heap.size = B at *
  clear k1 k2 k3 r2 hlt hb2
  go_wp2_with fail
  go_loopw [8] (fun i wr => ∃ (k : Nat) (l p : List UInt8) (v : Value), k ≤ len ∧ k ≤ 100 ∧ i = .int .i64 k ∧ Rd wr A l false ∧ Wr wr B v p ∧ s = p ++ l ∧ (k = 0 ∨ l ≠ []) ∧ New w wr ∧ (∀ g, v.ownBlock = some g → B ≤ g))
    (fun i _ => len - (intOf i).toNat)
  case atStart => exact ⟨0, s, [], _, Nat.zero_le _, Nat.zero_le _, rfl, r3, wr3, rfl, .inl rfl, kk, by intro g hg; simp [Value.ownBlock] at hg⟩
  case round =>
    clear r3 wr3 kk
    obtain ⟨k, l, p, v, hk, hk100, rfl, ra, rw_, hsp, hl0, kw, hv⟩ := hrel
    by_cases hlt : k < len ∧ k < 100
    · obtain ⟨hlt, hlt2⟩ := hlt
      obtain ⟨b, o, ha, hb, c0⟩ := h k (z[k]'(by omega)) (List.getElem?_eq_getElem (by omega))
      generalize z[k] = x at *
      subst ha
      have cA := (kw.cell (p := ⟨b, o + k, none⟩) hb (fun h => h)).trans c0
      have hple : p.length + l.length = s.length := by rw [hsp, List.length_append]
      have HS := Lib.hid hsp
      have HP := Lib.hid hple
      clear c0 hsp hple
      cases x
      · rcases Bool.eq_false_or_eq_true (cutBad l false 8) with hb2 | hb2 <;> have HB := Lib.hid hb2 <;> clear hb2
        · have en : numOut l false = 0 := by rw [numOut, HB.out]; rfl
          obtain ⟨n, en2⟩ : ∃ n, n = numOut l false := ⟨_, rfl⟩
          have EN2 := Lib.hid en2
          clear en2 en
          go_wp2_with fail
          refine (rnum_any A l false wr ra).mono ?_
          rw [← EN2.out, HB.out]
          rintro e w4 ⟨rfl, ra4, k4⟩
          have rw4 := wr_keep rw_ k4 (by rintro rfl; omega) (fun g hg e => by have := hv g hg; omega)
          go_wp2_with fail
          refine (num_any B v p n w4 (by have := HP.out; omega) rw4).mono ?_
          rintro e w5 ⟨rfl, v5, rw5, k5, m5⟩
          obtain ⟨hv5, k5'⟩ := wr_step rw4.lt hv k5 m5
          have ra5 : Rd w5 A _ _ := k5'.kept ra4 (fun (h : B ≤ A) => by omega)
          have kw5 : New w w5 := (kw.then k4 (fun _ h => .inr (by omega))).then k5' (fun _ h => .inr (by omega))
          clear k4 k5 k5' m5 rw4 kw ra4 ra
          go_wp2_with fail
          refine (bad_any A _ _ w5 ra5).mono ?_
          rintro e w' ⟨rfl, rfl⟩
          go_wp2_with fail
          refine (end_any A _ _ w5 ra5).mono ?_
          rintro e w' ⟨rfl, rfl⟩
          go_wp2_with fail
          go_ret
          exact ⟨rfl, kw5⟩
        · have hf := num_forth l HB.out
          obtain ⟨n, en2⟩ : ∃ n, n = numOut l false := ⟨_, rfl⟩
          rw [← en2] at hf
          have HF := Lib.hid hf
          clear hf
          have EN2 := Lib.hid en2
          clear en2
          go_wp2_with fail
          refine (rnum_any A l false wr ra).mono ?_
          rw [← EN2.out, HB.out]
          rintro e w4 ⟨rfl, ra4, k4⟩
          have rw4 := wr_keep rw_ k4 (by rintro rfl; omega) (fun g hg e => by have := hv g hg; omega)
          go_wp2_with fail
          refine (num_any B v p n w4 (by have := HP.out; omega) rw4).mono ?_
          rintro e w5 ⟨rfl, v5, rw5, k5, m5⟩
          obtain ⟨hv5, k5'⟩ := wr_step rw4.lt hv k5 m5
          have ra5 : Rd w5 A _ _ := k5'.kept ra4 (fun (h : B ≤ A) => by omega)
          have kw5 : New w w5 := (kw.then k4 (fun _ h => .inr (by omega))).then k5' (fun _ h => .inr (by omega))
          clear k4 k5 k5' m5 rw4 kw ra4 ra
          go_wp2_with fail
          refine (bad_any A _ _ w5 ra5).mono ?_
          rintro e w' ⟨rfl, rfl⟩
          go_wp2_with fail
          refine (end_any A _ _ w5 ra5).mono ?_
          rintro e w' ⟨rfl, rfl⟩
          have hs5 : s = (p ++ be 8 n) ++ cutRest l false 8 := HS.out.trans ((congrArg (p ++ ·) HF.out).trans (by simp only [List.append_assoc]))
          have HS5 := Lib.hid hs5
          clear hs5
          obtain ⟨r, hr⟩ : ∃ r, r = cutRest l false 8 := ⟨_, rfl⟩
          rw [← hr] at HS5 ra5 ⊢
          clear hr
          cases r with
          | nil =>
            go_wp2_with fail
            refine (bytes_any B v5 _ w5 rw5).mono ?_
            rintro e w6 ⟨rfl, k6⟩
            rw [List.append_nil] at HS5
            rw [← HS5.out]
            go_wp2_with fail
            go_ret
            exact ⟨ret_bool (by simp), kw5.then k6 (fun _ h => .inl h)⟩
          | cons c r =>
            go_wp2_with fail
            go_roundw
            case rel => exact ⟨k + 1, _, _, v5, by omega, by omega, by go_num, ra5, rw5, HS5.out, .inr (by simp), kw5, hv5⟩
            case measure => simp [intOf]; omega
      · rcases Bool.eq_false_or_eq_true (textBad l false (s.length : Int)) with hb2 | hb2 <;> have HB := Lib.hid hb2 <;> clear hb2
        · have en : textOut l false (s.length : Int) = [] := by rw [textOut, HB.out]; rfl
          obtain ⟨n, en2⟩ : ∃ n, n = textOut l false (s.length : Int) := ⟨_, rfl⟩
          have hn0 : n.length = 0 := by rw [en2, en]; rfl
          have EN2 := Lib.hid en2
          clear en2 en
          go_wp2_with fail
          refine (rtext_any A l false (s.length : Int) wr ra).mono ?_
          rw [← EN2.out, HB.out]
          rintro e w4 ⟨rfl, ra4, k4⟩
          have rw4 := wr_keep rw_ k4 (by rintro rfl; omega) (fun g hg e => by have := hv g hg; omega)
          go_wp2_with fail
          refine (text_any B v p ⟨n.toArray⟩ w4 (by have := HP.out; simp [ByteArray.size]; omega) rw4).mono ?_
          rintro e w5 ⟨rfl, v5, rw5, k5, m5⟩
          change Wr w5 B v5 (p ++ (be 4 n.length ++ n)) at rw5
          obtain ⟨hv5, k5'⟩ := wr_step rw4.lt hv k5 m5
          have ra5 : Rd w5 A _ _ := k5'.kept ra4 (fun (h : B ≤ A) => by omega)
          have kw5 : New w w5 := (kw.then k4 (fun _ h => .inr (by omega))).then k5' (fun _ h => .inr (by omega))
          clear k4 k5 k5' m5 rw4 kw ra4 ra
          go_wp2_with fail
          refine (bad_any A _ _ w5 ra5).mono ?_
          rintro e w' ⟨rfl, rfl⟩
          go_wp2_with fail
          refine (end_any A _ _ w5 ra5).mono ?_
          rintro e w' ⟨rfl, rfl⟩
          go_wp2_with fail
          go_ret
          exact ⟨rfl, kw5⟩
        · have hf := text_forth l (s.length : Int) HB.out
          obtain ⟨n, en2⟩ : ∃ n, n = textOut l false (s.length : Int) := ⟨_, rfl⟩
          rw [← en2] at hf
          have hn0 : 4 + n.length ≤ l.length := by have := congrArg List.length hf; simp only [List.length_append, be_length] at this; omega
          have HF := Lib.hid hf
          clear hf
          have EN2 := Lib.hid en2
          clear en2
          go_wp2_with fail
          refine (rtext_any A l false (s.length : Int) wr ra).mono ?_
          rw [← EN2.out, HB.out]
          rintro e w4 ⟨rfl, ra4, k4⟩
          have rw4 := wr_keep rw_ k4 (by rintro rfl; omega) (fun g hg e => by have := hv g hg; omega)
          go_wp2_with fail
          refine (text_any B v p ⟨n.toArray⟩ w4 (by have := HP.out; simp [ByteArray.size]; omega) rw4).mono ?_
          rintro e w5 ⟨rfl, v5, rw5, k5, m5⟩
          change Wr w5 B v5 (p ++ (be 4 n.length ++ n)) at rw5
          obtain ⟨hv5, k5'⟩ := wr_step rw4.lt hv k5 m5
          have ra5 : Rd w5 A _ _ := k5'.kept ra4 (fun (h : B ≤ A) => by omega)
          have kw5 : New w w5 := (kw.then k4 (fun _ h => .inr (by omega))).then k5' (fun _ h => .inr (by omega))
          clear k4 k5 k5' m5 rw4 kw ra4 ra
          go_wp2_with fail
          refine (bad_any A _ _ w5 ra5).mono ?_
          rintro e w' ⟨rfl, rfl⟩
          go_wp2_with fail
          refine (end_any A _ _ w5 ra5).mono ?_
          rintro e w' ⟨rfl, rfl⟩
          have hs5 : s = (p ++ (be 4 n.length ++ n)) ++ textRest l false (s.length : Int) := HS.out.trans ((congrArg (p ++ ·) HF.out).trans (by simp only [List.append_assoc]))
          have HS5 := Lib.hid hs5
          clear hs5
          obtain ⟨r, hr⟩ : ∃ r, r = textRest l false (s.length : Int) := ⟨_, rfl⟩
          rw [← hr] at HS5 ra5 ⊢
          clear hr
          cases r with
          | nil =>
            go_wp2_with fail
            refine (bytes_any B v5 _ w5 rw5).mono ?_
            rintro e w6 ⟨rfl, k6⟩
            rw [List.append_nil] at HS5
            rw [← HS5.out]
            go_wp2_with fail
            go_ret
            exact ⟨ret_bool (by simp), kw5.then k6 (fun _ h => .inl h)⟩
          | cons c r =>
            go_wp2_with fail
            go_roundw
            case rel => exact ⟨k + 1, _, _, v5, by omega, by omega, by go_num, ra5, rw5, HS5.out, .inr (by simp), kw5, hv5⟩
            case measure => simp [intOf]; omega
    · by_cases hkl : k < len
      · obtain rfl : k = 100 := by omega
        go_wp2_with fail
        go_ret
        exact ⟨rfl, kw⟩
      · obtain rfl : k = len := by omega
        go_wp2_with fail
        go_ret
        exact ⟨rfl, kw⟩
end Go.Proofs.Ytclldibadmnppaa
