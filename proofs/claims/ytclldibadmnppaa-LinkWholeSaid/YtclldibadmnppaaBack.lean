/-
  voussoirlaw02.CodecBack: the walk, and the plain laws beneath: what was laid is taken up by the same calls.
-/
import Derived.Test.YtclldibadmnppaaFew
import Derived.WalkLawsBesides
namespace Go.Proofs.Ytclldibadmnppaa
open Go.RowKit

theorem take_app {α : Type} (a b : List α) (n : Nat) (h : a.length = n) : (a ++ b).take n = a := by subst h; simp
theorem drop_app {α : Type} (a b : List α) (n : Nat) (h : a.length = n) : (a ++ b).drop n = b := by subst h; simp
theorem num_back (n : Nat) (r : List UInt8) (hn : U64 n) : cutBad (be 8 n ++ r) false 8 = false ∧ numOut (be 8 n ++ r) false = n ∧ cutRest (be 8 n ++ r) false 8 = r := by
  have hc : cutBad (be 8 n ++ r) false 8 = false := by simp [cutBad, be_length]
  refine ⟨hc, ?_, ?_⟩
  · rw [numOut, hc]
    simp only [Bool.false_eq_true, if_false]
    rw [take_app _ _ _ (be_length 8 n), val_be 8 n hn]
  · rw [cutRest, hc]
    simp only [Bool.false_eq_true, if_false]
    exact drop_app _ _ _ (be_length 8 n)
theorem text_back (s r : List UInt8) (most : Int) (hs : s.length < 4294967296) (hm : (s.length : Int) ≤ most) :
    textBad ((be 4 s.length ++ s) ++ r) false most = false ∧ textOut ((be 4 s.length ++ s) ++ r) false most = s ∧ textRest ((be 4 s.length ++ s) ++ r) false most = r := by
  have h4 := be_length 4 s.length
  have ht : ((be 4 s.length ++ s) ++ r).take 4 = be 4 s.length := by rw [List.append_assoc]; exact take_app _ _ _ h4
  have hd : ((be 4 s.length ++ s) ++ r).drop 4 = s ++ r := by rw [List.append_assoc]; exact drop_app _ _ _ h4
  have hv : val (be 4 s.length) = s.length := val_be 4 _ (by omega)
  have hc : cutBad ((be 4 s.length ++ s) ++ r) false 4 = false := by simp [cutBad, be_length]
  have hb : textBad ((be 4 s.length ++ s) ++ r) false most = false := by
    rw [textBad, hc, ht, hd, hv]
    have h1 : decide (most < (s.length : Int)) = false := by simpa using hm
    have h2 : decide ((s ++ r).length < s.length) = false := by simp
    rw [h1, h2]; rfl
  refine ⟨hb, ?_, ?_⟩
  · rw [textOut, hb, ht, hd, hv]
    simp only [Bool.false_eq_true, if_false]
    exact take_app _ _ _ rfl
  · rw [textRest, hc, hb, ht, hd, hv]
    simp only [Bool.false_eq_true, if_false]
    exact drop_app _ _ _ rfl

theorem lays_few (l : List It) (h : ∀ x ∈ l, x.s.length ≤ 1000) : (lays l).length ≤ 1004 * l.length := by
  induction l with
  | nil => simp [lays_nil]
  | cons x l ih =>
    have e : lays (x :: l) = x.lay ++ lays l := by rw [← lays_one x, ← lays_append]; rfl
    have h1 := ih (fun y hy => h y (.tail _ hy))
    have h2 := h x (.head _)
    rw [e, List.length_append, It.lay_length, List.length_cons]
    split <;> omega
theorem few_short (l : List It) : ∀ x ∈ fewL l, x.s.length ≤ 1000 := by
  intro x hx
  obtain ⟨y, _, rfl⟩ := List.mem_map.1 (List.mem_of_mem_take hx)
  simp [It.cut]; omega
theorem lays_drop (l : List It) (k : Nat) (h : k < l.length) : lays (l.drop k) = (l[k]).lay ++ lays (l.drop (k + 1)) := by
  rw [List.drop_eq_getElem_cons h]
  rw [← lays_one, ← lays_append]; rfl

set_option maxHeartbeats 4000000 in
set_option maxRecDepth 100000 in
theorem back_walk (a : Option Addr) (len cap : Nat) (l : List It) (w : World) (hlen : l.length = len) (h63 : len ≤ 9223372036854775807) (h : Items w a l) :
    Calls Try.prog 7 #[.slice a len cap] w fun e w' => e = .returned (.bool true) ∧ New w w' := by
  go_enter Try.func7, Try.ntmps7
  go_wp2_with fail
  refine (awake_any w).mono ?_
  rintro e w1 ⟨rfl, k1⟩
  go_wp2_with fail
  refine (few_any a len cap l w1 hlen h63 (h.keep k1 (fun _ _ _ h => h))).mono ?_
  rintro e w2 ⟨a2, cap2, rfl, hI2, _, k2⟩
  have hshort := few_short l
  have hL50 := fewL_length l
  generalize fewL l = L at *
  have hlays := lays_few L hshort
  have hS := Lib.hid hshort
  clear h hshort
  obtain ⟨m, hm⟩ : ∃ m, m = L.length := ⟨_, rfl⟩
  rw [← hm] at hL50 hlays ⊢
  have HM := Lib.hid hm
  clear hm
  go_wp2_with fail
  refine (laid_any a2 m cap2 L w2 HM.out.symm (by omega) (by omega) hI2).mono ?_
  rintro e w3 ⟨rfl, k3⟩
  go_wp2_with fail
  refine (newReader_any (lays L) w3).mono ?_
  rintro e w4 ⟨rfl, r4, k4⟩
  have hI4 := (hI2.keep k3 (fun _ _ _ h => h)).keep k4 (fun _ _ _ h => h)
  have hI3 := hI2.keep k3 (fun _ _ _ h => h)
  have kk : New w w4 := ((k1.then k2 (fun _ h => .inl h)).then k3 (fun _ h => .inl h)).then k4 (fun _ h => .inl h)
  have hb : w.heap.size ≤ w3.heap.size := ((k1.then k2 (fun _ h => .inl h)).then k3 (fun _ h => .inl h) : New w w3).size
  have hA : ∀ b o, a2 = some ⟨b, o, none⟩ → 0 < m → b < w3.heap.size := by
    intro b o hb hm
    obtain ⟨b', o', e, hlt, _⟩ := hI3 0 (L[0]'(by rw [← HM.out]; exact hm)) (List.getElem?_eq_getElem _)
    rw [hb] at e; cases e; exact hlt
  generalize w3.heap.size = A at *
  clear k1 k2 k3 k4 hI2 hI3
  go_wp2_with fail
  go_loopw [5] (fun i wr => ∃ (k : Nat), k ≤ m ∧ i = .int .i64 k ∧ Rd wr A (lays (L.drop k)) false ∧ Items wr a2 L ∧ New w wr)
    (fun i _ => m - (intOf i).toNat)
  case atStart => exact ⟨0, Nat.zero_le _, rfl, r4, hI4, kk⟩
  case round =>
    clear r4 kk hI4
    obtain ⟨k, hk, rfl, ra, hI, kw⟩ := hrel
    by_cases hlt : k < m
    · have hkl : k < L.length := by rw [← HM.out]; exact hlt
      have hd := lays_drop L k hkl
      obtain ⟨b, o, ha, hbw, hu, c0, c1, c2⟩ := hI k L[k] (List.getElem?_eq_getElem hkl)
      have hsh := hS.out L[k] (List.getElem_mem hkl)
      have hbA : b ≠ A := by have := hA b o ha (by omega); omega
      have HI := Lib.hid hI
      have HHA := Lib.hid hA
      clear hI hA
      subst ha
      generalize L[k] = x at *
      obtain ⟨t, n, s⟩ := x
      cases t
      · have hd2 : lays (L.drop k) = be 8 n ++ lays (L.drop (k + 1)) := hd
        have nb := Lib.hid (num_back n (lays (L.drop (k + 1))) hu)
        rw [hd2] at ra
        clear hd hd2
        have hne : (be 8 n ++ lays (L.drop (k + 1))).isEmpty = false := by
          have := be_length 8 n
          cases hx : be 8 n with
          | nil => rw [hx] at this; simp at this
          | cons _ _ => rfl
        have HNE := Lib.hid hne
        clear hne
        generalize be 8 n ++ lays (L.drop (k + 1)) = q at *
        go_wp2_with fail
        refine (end_any A q false wr ra).mono ?_
        rw [HNE.out]
        rintro e w' ⟨rfl, rfl⟩
        go_wp2_with fail
        go_region_with (go_at_call 32; refine (rnum_any A q false _ (by exact ra)).mono ?_; rw [nb.out.1, nb.out.2.1, nb.out.2.2]; rintro e w5 ⟨rfl, ra5, k0⟩; have k5 := k0.undrew; clear k0; have c15 := (k5.cell (p := ⟨b, o + k * 3 + 1, none⟩) hbw hbA).trans c1)
        all_goals (
          have hI5 := HI.out.keep k5 (by rintro b' o' e; cases e; exact hbA)
          have kw5 : New w w5 := kw.then k5 (fun _ h => .inr (by omega))
          have hI6 := Lib.hid hI5
          clear hI5
          go_wp2_with fail
          refine (bad_any A _ _ w5 ra5).mono ?_
          rintro e w' ⟨rfl, rfl⟩
          go_wp2_with fail
          go_roundw
          case rel => exact ⟨k + 1, by omega, by go_num, ra5, hI6.out, kw5⟩
          case measure => simp [intOf]; omega)
      · have hd2 : lays (L.drop k) = (be 4 s.length ++ s) ++ lays (L.drop (k + 1)) := hd
        have nb := Lib.hid (text_back s (lays (L.drop (k + 1))) (s.length : Int) (by have : s.length ≤ 1000 := hsh; omega) (Int.le_refl _))
        rw [hd2] at ra
        clear hd hd2
        have hne : ((be 4 s.length ++ s) ++ lays (L.drop (k + 1))).isEmpty = false := by
          have := be_length 4 s.length
          cases hx : be 4 s.length with
          | nil => rw [hx] at this; simp at this
          | cons _ _ => rfl
        have HNE := Lib.hid hne
        clear hne
        generalize (be 4 s.length ++ s) ++ lays (L.drop (k + 1)) = q at *
        go_wp2_with fail
        refine (end_any A q false wr ra).mono ?_
        rw [HNE.out]
        rintro e w' ⟨rfl, rfl⟩
        go_wp2_with fail
        go_region_with (go_at_call 34; refine (rtext_any A q false (s.length : Int) _ (by exact ra)).mono ?_; rw [nb.out.1, nb.out.2.1, nb.out.2.2]; rintro e w5 ⟨rfl, ra5, k0⟩; have k5 := k0.undrew; clear k0; have c25 := (k5.cell (p := ⟨b, o + k * 3 + 2, none⟩) hbw hbA).trans c2)
        all_goals (
          have hI5 := HI.out.keep k5 (by rintro b' o' e; cases e; exact hbA)
          have kw5 : New w w5 := kw.then k5 (fun _ h => .inr (by omega))
          have hI6 := Lib.hid hI5
          clear hI5
          go_wp2_with fail
          refine (bad_any A _ _ w5 ra5).mono ?_
          rintro e w' ⟨rfl, rfl⟩
          go_wp2_with fail
          go_roundw
          case rel => exact ⟨k + 1, by omega, by go_num, ra5, hI6.out, kw5⟩
          case measure => simp [intOf]; omega)
    · obtain rfl : k = m := by omega
      have e : lays (L.drop k) = [] := by rw [HM.out, List.drop_length]; rfl
      rw [e] at ra
      clear e hI hA
      go_wp2_with fail
      refine (end_any A _ _ wr ra).mono ?_
      rintro e w' ⟨rfl, rfl⟩
      go_wp2_with fail
      go_ret
      exact ⟨rfl, kw⟩
end Go.Proofs.Ytclldibadmnppaa
