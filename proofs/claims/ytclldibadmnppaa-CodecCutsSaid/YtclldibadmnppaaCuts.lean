/-
  voussoirlaw02.CodecCuts: the walk, and the plain laws beneath: what is cut off is told.
-/
import Derived.Test.YtclldibadmnppaaBack
namespace Go.Proofs.Ytclldibadmnppaa
open Go.RowKit

theorem num_cut (n : Nat) (r : List UInt8) (j : Nat) (hj : j < 8) : cutBad ((be 8 n ++ r).take j) false 8 = true := by
  simp [cutBad, be_length]; omega
theorem num_whole (n : Nat) (r : List UInt8) (j : Nat) (hj : 8 ≤ j) : (be 8 n ++ r).take j = be 8 n ++ r.take (j - 8) := by
  rw [List.take_append, be_length, List.take_of_length_le (by rw [be_length]; exact hj)]
theorem text_whole (s r : List UInt8) (j : Nat) (hj : 4 + s.length ≤ j) : ((be 4 s.length ++ s) ++ r).take j = (be 4 s.length ++ s) ++ r.take (j - (4 + s.length)) := by
  have e : (be 4 s.length ++ s).length = 4 + s.length := by rw [List.length_append, be_length]
  rw [List.take_append, e, List.take_of_length_le (by rw [e]; exact hj)]
theorem text_cut (s r : List UInt8) (most : Int) (j : Nat) (hs : s.length < 4294967296) (hj : j < 4 + s.length) : textBad (((be 4 s.length ++ s) ++ r).take j) false most = true := by
  have h4 := be_length 4 s.length
  by_cases h : j < 4
  · have hc : cutBad (((be 4 s.length ++ s) ++ r).take j) false 4 = true := by simp [cutBad, be_length]; omega
    rw [textBad, hc]; rfl
  · have ht : (((be 4 s.length ++ s) ++ r).take j).take 4 = be 4 s.length := by
      rw [List.take_take, Nat.min_eq_left (by omega), List.append_assoc]; exact take_app _ _ _ h4
    have hv : val (be 4 s.length) = s.length := val_be 4 _ (by omega)
    have hl : ((((be 4 s.length ++ s) ++ r).take j).drop 4).length < s.length := by
      simp [be_length]; omega
    rw [textBad, ht, hv, decide_eq_true hl]
    simp
theorem lays_split (L : List It) (k : Nat) : lays L = lays (L.take k) ++ lays (L.drop k) := by rw [← lays_append, List.take_append_drop]
theorem bad_stays8 (l : List UInt8) : cutBad l true 8 = true := by simp [cutBad]
theorem bad_staysT (l : List UInt8) (m : Int) : textBad l true m = true := by simp [textBad, cutBad]

set_option maxHeartbeats 4000000 in
set_option maxRecDepth 100000 in
theorem cuts_walk (a : Option Addr) (len cap : Nat) (l : List It) (c : Int) (w : World) (hlen : l.length = len) (h63 : len ≤ 9223372036854775807) (h : Items w a l) (hc : I64 c) :
    Calls Try.prog 9 #[.slice a len cap, .int .i64 c] w fun e w' => e = .returned (.bool true) ∧ New w w' := by
  go_enter Try.func9, Try.ntmps9
  go_wp2_with fail
  refine (awake_any w).mono ?_
  rintro e w1 ⟨rfl, k1⟩
  go_wp2_with fail
  refine (few_any a len cap l w1 hlen h63 (h.keep k1 (fun _ _ _ h => h))).mono ?_
  rintro e w2 ⟨a2, cap2, rfl, hI2, _, k2⟩
  have hshort := few_short l
  have hL50 := fewL_length l
  generalize fewL l = L at *
  have hlays := lays_few L hshort
  have hS := Lib.hid hshort
  clear h hshort
  obtain ⟨m, hm⟩ : ∃ m, m = L.length := ⟨_, rfl⟩
  rw [← hm] at hL50 hlays ⊢
  have HM := Lib.hid hm
  clear hm
  go_wp2_with fail
  refine (laid_any a2 m cap2 L w2 HM.out.symm (by omega) (by omega) hI2).mono ?_
  rintro e w3 ⟨rfl, k3⟩
  go_wp2_with fail
  rw [show ((lays L).length : Int) + 1 = (((lays L).length + 1 : Nat) : Int) from by omega]
  refine (pick_any c ((lays L).length + 1) w3 hc (by omega) (by omega)).mono ?_
  rintro e w' ⟨rfl, rfl⟩
  have hn := pk_lt c ((lays L).length + 1) (by omega)
  generalize pk c ((lays L).length + 1) = n at *
  have hn2 : n ≤ (lays L).length := by omega
  have x1 := ext_take (lays L) n
  go_wp2_with fail
  refine (newReader_any ((lays L).take n) w3).mono ?_
  rintro e w4 ⟨rfl, r4, k4⟩
  have hI4 := (hI2.keep k3 (fun _ _ _ h => h)).keep k4 (fun _ _ _ h => h)
  have hI3 := hI2.keep k3 (fun _ _ _ h => h)
  have kk : New w w4 := ((k1.then k2 (fun _ h => .inl h)).then k3 (fun _ h => .inl h)).then k4 (fun _ h => .inl h)
  have hb : w.heap.size ≤ w3.heap.size := ((k1.then k2 (fun _ h => .inl h)).then k3 (fun _ h => .inl h) : New w w3).size
  have hA : ∀ b o, a2 = some ⟨b, o, none⟩ → 0 < m → b < w3.heap.size := by
    intro b o hb hm
    obtain ⟨b', o', e, hlt, _⟩ := hI3 0 (L[0]'(by rw [← HM.out]; exact hm)) (List.getElem?_eq_getElem _)
    rw [hb] at e; cases e; exact hlt
  generalize w3.heap.size = A at *
  clear k1 k2 k3 k4 hI2 hI3 x1 hn
  go_wp2_with fail
  go_loopw [9, 10] (fun at_ i wr => ∃ (k : Nat) (q : List UInt8) (bad : Bool), k ≤ m ∧ i = .int .i64 k ∧ at_ = .int .i64 (lays (L.take k)).length ∧ Rd wr A q bad ∧ bad = decide (n < (lays (L.take k)).length) ∧ (bad = false → q = (lays (L.drop k)).take (n - (lays (L.take k)).length)) ∧ Items wr a2 L ∧ New w wr)
    (fun _ i _ => m - (intOf i).toNat)
  case atStart => exact ⟨0, _, false, Nat.zero_le _, rfl, rfl, r4, by simp [lays_nil], (fun _ => by simp [lays_nil]), hI4, kk⟩
  case round =>
    clear r4 kk hI4
    obtain ⟨k, q, bad, hk, rfl, rfl, ra, hbad, hq, hI, kw⟩ := hrel
    have HB := Lib.hid hbad
    have HQ := Lib.hid hq
    clear hbad hq
    by_cases hlt : k < m
    · have hkl : k < L.length := by rw [← HM.out]; exact hlt
      have hd := lays_drop L k hkl
      have ht2 : (lays (L.take (k + 1))).length = (lays (L.take k)).length + (L[k]).lay.length := by rw [List.take_succ_eq_append_getElem hkl, lays_append, lays_one, List.length_append]
      have hle2 : (lays (L.take (k + 1))).length ≤ (lays L).length := by rw [lays_split L (k + 1), List.length_append]; omega
      obtain ⟨b, o, ha, hbw, hu, c0, c1, c2⟩ := hI k L[k] (List.getElem?_eq_getElem hkl)
      have hsh := hS.out L[k] (List.getElem_mem hkl)
      have hbA : b ≠ A := by have := hA b o ha (by omega); omega
      have HI := Lib.hid hI
      have HHA := Lib.hid hA
      clear hI hA
      rw [It.lay_length] at ht2
      subst ha
      generalize L[k] = x at *
      obtain ⟨t, n', s⟩ := x
      obtain ⟨t2, ht3⟩ : ∃ t2, t2 = (lays (L.take (k + 1))).length := ⟨_, rfl⟩
      rw [← ht3] at ht2 hle2
      have HT3 := Lib.hid ht3
      have HT2' := Lib.hid ht2
      clear ht3 ht2
      obtain ⟨t1, ht1⟩ : ∃ t1, t1 = (lays (L.take k)).length := ⟨_, rfl⟩
      rw [← ht1] at HT2' HB HQ ⊢
      have HT1 := Lib.hid ht1
      clear ht1
      cases t
      · have hd2 : lays (L.drop k) = be 8 n' ++ lays (L.drop (k + 1)) := hd
        clear hd
        have HT2 : Hid (t2 = t1 + 8) := HT2'
        have htb : t1 + 8 ≤ 50200 := by have := HT2.out; omega
        cases bad
        · have hle : t1 ≤ n := by have := HB.out; simp at this; exact this
          obtain ⟨j, hj⟩ : ∃ j, j = n - t1 := ⟨_, rfl⟩
          have hq := HQ.out rfl
          rw [← hj, hd2] at hq
          by_cases hcut : j < 8
          · have hbad : cutBad q false 8 = true := by rw [hq]; exact num_cut n' _ j hcut
            have HBAD := Lib.hid hbad
            clear hbad
            have hnb : (n < t2) = True := by have := HT2.out; simp; omega
            have hdec : decide (n < t2) = true := by simp [hnb]
            clear hq hj hd2
            clear hnb
            have HD := Lib.hid hdec
            have hlt3 : n < t1 + 8 := by have e1 := HT2.out; have e2 : n < t2 := of_decide_eq_true hdec; omega
            have hd3 : decide ((n : Int) < (t1 : Int) + 8) = true := by simp only [decide_eq_true_eq]; omega
            clear hdec
            go_wp2_with fail
            refine (rnum_any A q false wr ra).mono ?_
            rw [HBAD.out]
            rintro e w5 ⟨rfl, ra5, k5⟩
            have hI5 := HI.out.keep k5 (by rintro b' o' e; cases e; exact hbA)
            have kw5 : New w w5 := kw.then k5 (fun _ h => .inr (by omega))
            have hI6 := Lib.hid hI5
            clear hI5 k5
            go_wp2_with fail
            refine (bad_any A _ _ w5 ra5).mono ?_
            rintro e w' ⟨rfl, rfl⟩
            go_wp2_with fail
            go_roundw
            case rel => exact ⟨k + 1, _, _, by omega, by go_num, by rw [← HT3.out, HT2.out]; go_num, ra5, by rw [← HT3.out]; exact HD.out.symm, (fun h => by cases h), hI6.out, kw5⟩
            case measure => simp [intOf]; omega
          · have hq2 : q = be 8 n' ++ (lays (L.drop (k + 1))).take (j - 8) := by rw [hq]; exact num_whole n' _ j (by omega)
            have nb := num_back n' ((lays (L.drop (k + 1))).take (j - 8)) hu
            rw [← hq2] at nb
            have HREST := Lib.hid nb.2.2
            have HBAD := Lib.hid nb.1
            have hdec : decide (n < t2) = false := by have := HT2.out; simp; omega
            have HD := Lib.hid hdec
            have hlt3 : ¬ n < t1 + 8 := by have e1 := HT2.out; have e2 : ¬ n < t2 := of_decide_eq_false hdec; omega
            have hd3 : decide ((n : Int) < (t1 : Int) + 8) = false := by simp only [decide_eq_false_iff_not]; omega
            clear hdec
            have HJ := Lib.hid hj
            clear hq hj hd2 hq2 nb
            go_wp2_with fail
            refine (rnum_any A q false wr ra).mono ?_
            rw [HBAD.out]
            rintro e w5 ⟨rfl, ra5, k5⟩
            have hI5 := HI.out.keep k5 (by rintro b' o' e; cases e; exact hbA)
            have kw5 : New w w5 := kw.then k5 (fun _ h => .inr (by omega))
            have hI6 := Lib.hid hI5
            clear hI5 k5
            go_wp2_with fail
            refine (bad_any A _ _ w5 ra5).mono ?_
            rintro e w' ⟨rfl, rfl⟩
            go_wp2_with fail
            go_roundw
            case rel => exact ⟨k + 1, _, _, by omega, by go_num, by rw [← HT3.out, HT2.out]; go_num, ra5, by rw [← HT3.out]; exact HD.out.symm, fun _ => HREST.out.trans (by rw [HJ.out, ← HT3.out, HT2.out]; try rw [Nat.sub_sub]), hI6.out, kw5⟩
            case measure => simp [intOf]; omega
        · have hlt1 : n < t1 := by have := HB.out; simp at this; exact this
          have hdec : decide (n < t2) = true := by have := HT2.out; simp; omega
          have HD := Lib.hid hdec
          have hlt3 : n < t1 + 8 := by have e1 := HT2.out; have e2 : n < t2 := of_decide_eq_true hdec; omega
          have hd3 : decide ((n : Int) < (t1 : Int) + 8) = true := by simp only [decide_eq_true_eq]; omega
          clear hdec hd2
          have HBAD := Lib.hid (bad_stays8 q)
          go_wp2_with fail
          refine (rnum_any A q true wr ra).mono ?_
          rw [HBAD.out]
          rintro e w5 ⟨rfl, ra5, k5⟩
          have hI5 := HI.out.keep k5 (by rintro b' o' e; cases e; exact hbA)
          have kw5 : New w w5 := kw.then k5 (fun _ h => .inr (by omega))
          have hI6 := Lib.hid hI5
          clear hI5 k5
          go_wp2_with fail
          refine (bad_any A _ _ w5 ra5).mono ?_
          rintro e w' ⟨rfl, rfl⟩
          go_wp2_with fail
          go_roundw
          case rel => exact ⟨k + 1, _, _, by omega, by go_num, by rw [← HT3.out, HT2.out]; go_num, ra5, by rw [← HT3.out]; exact HD.out.symm, (fun h => by cases h), hI6.out, kw5⟩
          case measure => simp [intOf]; omega
      · have hd2 : lays (L.drop k) = (be 4 s.length ++ s) ++ lays (L.drop (k + 1)) := hd
        clear hd
        have hsh2 : s.length ≤ 1000 := hsh
        have HT2 : Hid (t2 = t1 + (4 + s.length)) := HT2'
        have htb : t1 + (4 + s.length) ≤ 50200 := by have := HT2.out; omega
        cases bad
        · have hle : t1 ≤ n := by have := HB.out; simp at this; exact this
          obtain ⟨j, hj⟩ : ∃ j, j = n - t1 := ⟨_, rfl⟩
          have hq := HQ.out rfl
          rw [← hj, hd2] at hq
          by_cases hcut : j < (4 + s.length)
          · have hbad : textBad q false 1000 = true := by rw [hq]; exact text_cut s _ 1000 j (by omega) hcut
            have HBAD := Lib.hid hbad
            clear hbad
            have hnb : (n < t2) = True := by have := HT2.out; simp; omega
            have hdec : decide (n < t2) = true := by simp [hnb]
            clear hq hj hd2
            clear hnb
            have HD := Lib.hid hdec
            have hlt3 : n < t1 + (4 + s.length) := by have e1 := HT2.out; have e2 : n < t2 := of_decide_eq_true hdec; omega
            have hd3 : decide ((n : Int) < (t1 : Int) + (4 + (s.length : Int))) = true := by simp only [decide_eq_true_eq]; omega
            clear hdec
            go_wp2_with fail
            refine (rtext_any A q false 1000 wr ra).mono ?_
            rw [HBAD.out]
            rintro e w5 ⟨rfl, ra5, k5⟩
            have hI5 := HI.out.keep k5 (by rintro b' o' e; cases e; exact hbA)
            have kw5 : New w w5 := kw.then k5 (fun _ h => .inr (by omega))
            have hI6 := Lib.hid hI5
            clear hI5 k5
            go_wp2_with fail
            refine (bad_any A _ _ w5 ra5).mono ?_
            rintro e w' ⟨rfl, rfl⟩
            go_wp2_with fail
            go_roundw
            case rel => exact ⟨k + 1, _, _, by omega, by go_num, by rw [← HT3.out, HT2.out]; go_num, ra5, by rw [← HT3.out]; exact HD.out.symm, (fun h => by cases h), hI6.out, kw5⟩
            case measure => simp [intOf]; omega
          · have hq2 : q = (be 4 s.length ++ s) ++ (lays (L.drop (k + 1))).take (j - (4 + s.length)) := by rw [hq]; exact text_whole s _ j (by omega)
            have nb := text_back s ((lays (L.drop (k + 1))).take (j - (4 + s.length))) 1000 (by omega) (by have : s.length ≤ 1000 := hsh; omega)
            rw [← hq2] at nb
            have HREST := Lib.hid nb.2.2
            have HBAD := Lib.hid nb.1
            have hdec : decide (n < t2) = false := by have := HT2.out; simp; omega
            have HD := Lib.hid hdec
            have hlt3 : ¬ n < t1 + (4 + s.length) := by have e1 := HT2.out; have e2 : ¬ n < t2 := of_decide_eq_false hdec; omega
            have hd3 : decide ((n : Int) < (t1 : Int) + (4 + (s.length : Int))) = false := by simp only [decide_eq_false_iff_not]; omega
            clear hdec
            have HJ := Lib.hid hj
            clear hq hj hd2 hq2 nb
            go_wp2_with fail
            refine (rtext_any A q false 1000 wr ra).mono ?_
            rw [HBAD.out]
            rintro e w5 ⟨rfl, ra5, k5⟩
            have hI5 := HI.out.keep k5 (by rintro b' o' e; cases e; exact hbA)
            have kw5 : New w w5 := kw.then k5 (fun _ h => .inr (by omega))
            have hI6 := Lib.hid hI5
            clear hI5 k5
            go_wp2_with fail
            refine (bad_any A _ _ w5 ra5).mono ?_
            rintro e w' ⟨rfl, rfl⟩
            go_wp2_with fail
            go_roundw
            case rel => exact ⟨k + 1, _, _, by omega, by go_num, by rw [← HT3.out, HT2.out]; go_num, ra5, by rw [← HT3.out]; exact HD.out.symm, fun _ => HREST.out.trans (by rw [HJ.out, ← HT3.out, HT2.out]; try rw [Nat.sub_sub]), hI6.out, kw5⟩
            case measure => simp [intOf]; omega
        · have hlt1 : n < t1 := by have := HB.out; simp at this; exact this
          have hdec : decide (n < t2) = true := by have := HT2.out; simp; omega
          have HD := Lib.hid hdec
          have hlt3 : n < t1 + (4 + s.length) := by have e1 := HT2.out; have e2 : n < t2 := of_decide_eq_true hdec; omega
          have hd3 : decide ((n : Int) < (t1 : Int) + (4 + (s.length : Int))) = true := by simp only [decide_eq_true_eq]; omega
          clear hdec hd2
          have HBAD := Lib.hid (bad_staysT q 1000)
          go_wp2_with fail
          refine (rtext_any A q true 1000 wr ra).mono ?_
          rw [HBAD.out]
          rintro e w5 ⟨rfl, ra5, k5⟩
          have hI5 := HI.out.keep k5 (by rintro b' o' e; cases e; exact hbA)
          have kw5 : New w w5 := kw.then k5 (fun _ h => .inr (by omega))
          have hI6 := Lib.hid hI5
          clear hI5 k5
          go_wp2_with fail
          refine (bad_any A _ _ w5 ra5).mono ?_
          rintro e w' ⟨rfl, rfl⟩
          go_wp2_with fail
          go_roundw
          case rel => exact ⟨k + 1, _, _, by omega, by go_num, by rw [← HT3.out, HT2.out]; go_num, ra5, by rw [← HT3.out]; exact HD.out.symm, (fun h => by cases h), hI6.out, kw5⟩
          case measure => simp [intOf]; omega
    · obtain rfl : k = m := by omega
      have hall : lays (L.take k) = lays L := by rw [HM.out, List.take_length]
      have hnil : lays (L.drop k) = [] := by rw [HM.out, List.drop_length]; rfl
      clear hI hA
      rw [hall] at HB HQ ⊢
      rw [hnil] at HQ
      clear hall hnil
      cases bad
      · have hge : ¬ n < (lays L).length := by have := HB.out; simpa using this
        have hq : q = [] := by have := HQ.out rfl; simpa using this
        subst hq
        have heq : n = (lays L).length := by omega
        have hbe : ((n : Int) == ((lays L).length : Int)) = true := by rw [heq]; simp
        have HE := Lib.hid heq
        clear heq
        go_wp2_with fail
        refine (end_any A _ _ wr ra).mono ?_
        rintro e w' ⟨rfl, rfl⟩
        go_wp2_with fail
        go_ret
        exact ⟨ret_bool (by simp), kw⟩
      · have hlt2 : n < (lays L).length := by have := HB.out; simpa using this
        have hbe : ((n : Int) == ((lays L).length : Int)) = false := by rw [beq_eq_false_iff_ne]; omega
        go_wp2_with fail
        refine (end_any A _ _ wr ra).mono ?_
        rintro e w' ⟨rfl, rfl⟩
        go_wp2_with fail
        go_ret
        exact ⟨ret_bool (by simp; try omega), kw⟩
end Go.Proofs.Ytclldibadmnppaa
