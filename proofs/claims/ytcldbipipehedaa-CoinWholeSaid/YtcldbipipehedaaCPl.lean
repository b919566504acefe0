/-
  PLAIN LAWS ON COINS LAID AS BYTES: what is laid is taken up, what is taken up is laid, what is cut or goes on is none. No walk here.
-/
import Derived.Test.YtcldbipipehedaaTr6
namespace Go.Proofs.Ytcldbipipehedaa

theorem tx_take (s r : List UInt8) (m : Int) (hm : (s.length : Int) ≤ m) (hs : s.length < 4294967296) : tOut (tx s ++ r, false) m = s ∧ tNx (tx s ++ r, false) m = (r, false) := by
  have h1 : (tx s ++ r).take 4 = be 4 s.length := by unfold tx; rw [List.append_assoc, List.take_left' (be_length 4 _)]
  have h2 : (tx s ++ r).drop 4 = s ++ r := by unfold tx; rw [List.append_assoc, List.drop_left' (be_length 4 _)]
  have h3 : val (be 4 s.length) = s.length := val_be 4 _ (by omega)
  have h4 : cutBad (tx s ++ r) false 4 = false := by
    unfold cutBad; simp [tx_length]; omega
  have h5 : textBad (tx s ++ r) false m = false := by
    unfold textBad
    rw [h4, h1, h2, h3]
    simp; omega
  constructor
  · show textOut _ _ _ = _
    unfold textOut
    rw [h5, h1, h2, h3]
    simp
  · show (textRest _ _ _, textBad _ _ _) = _
    unfold textRest
    rw [h5, h4, h1, h2, h3]
    simp
theorem be_take (n : Nat) (r : List UInt8) (hn : U64 n) : nm (be 8 n ++ r, false) = n ∧ nx (be 8 n ++ r, false) = (r, false) := by
  have h4 : cutBad (be 8 n ++ r) false 8 = false := by unfold cutBad; simp [be_length]
  constructor
  · show numOut _ _ = _
    unfold numOut
    rw [h4, List.take_left' (be_length 8 _)]
    simp only [Bool.false_eq_true, if_false]
    exact val_be 8 n hn
  · show (cutRest _ _ _, cutBad _ _ _) = _
    unfold cutRest
    rw [h4, List.drop_left' (be_length 8 _)]
    rfl
theorem take_lay (c : Co) (r : List UInt8) (hr : rightC c = true) (hv : U64 c.amt) : takC (layC c ++ r, false) = c ∧ takR (layC c ++ r, false) = (r, false) := by
  obtain ⟨⟨d1, d2⟩, ⟨f1, f2⟩, ⟨t1, t2⟩, a1⟩ := right_parts hr
  have e : layC c ++ r = tx c.den ++ (be 8 c.amt ++ (tx c.fr ++ (tx c.to ++ r))) := by unfold layC; simp
  obtain ⟨x1, y1⟩ := tx_take c.den (be 8 c.amt ++ (tx c.fr ++ (tx c.to ++ r))) 128 (by omega) (by omega)
  obtain ⟨x2, y2⟩ := be_take c.amt (tx c.fr ++ (tx c.to ++ r)) hv
  obtain ⟨x3, y3⟩ := tx_take c.fr (tx c.to ++ r) 32 (by omega) (by omega)
  obtain ⟨x4, y4⟩ := tx_take c.to r 32 (by omega) (by omega)
  unfold takC takR
  rw [e, x1, y1, x2, y2, x3, y3, x4, y4]
  exact ⟨rfl, rfl⟩
theorem tx_back {p : List UInt8 × Bool} {m : Int} (h : (tNx p m).2 = false) : p.2 = false ∧ p.1 = tx (tOut p m) ++ (tNx p m).1 := by
  have hb : textBad p.1 p.2 m = false := h
  have hb2 := hb
  unfold textBad at hb2
  simp only [Bool.or_eq_false_iff, decide_eq_false_iff_not] at hb2
  obtain ⟨⟨hc, hm⟩, hl⟩ := hb2
  have hc2 := hc
  unfold cutBad at hc2
  simp only [Bool.or_eq_false_iff, decide_eq_false_iff_not] at hc2
  have o : tOut p m = (p.1.drop 4).take (val (p.1.take 4)) := by show textOut _ _ _ = _; unfold textOut; rw [hb]; rfl
  have n : (tNx p m).1 = (p.1.drop 4).drop (val (p.1.take 4)) := by show textRest _ _ _ = _; unfold textRest; rw [hb, hc]; rfl
  refine ⟨hc2.1, ?_⟩
  have e4 : (p.1.take 4).length = 4 := by rw [List.length_take]; omega
  have hlen : ((p.1.drop 4).take (val (p.1.take 4))).length = val (p.1.take 4) := by rw [List.length_take]; omega
  rw [o, n]
  unfold tx
  have hbv := be_val (p.1.take 4)
  rw [e4] at hbv
  rw [hlen, hbv, List.append_assoc, List.take_append_drop, List.take_append_drop]
theorem be_back {p : List UInt8 × Bool} (h : (nx p).2 = false) : p.2 = false ∧ p.1 = be 8 (nm p) ++ (nx p).1 := by
  have hb : cutBad p.1 p.2 8 = false := h
  have hb2 := hb
  unfold cutBad at hb2
  simp only [Bool.or_eq_false_iff, decide_eq_false_iff_not] at hb2
  have o : nm p = val (p.1.take 8) := by show numOut _ _ = _; unfold numOut; rw [hb]; rfl
  have n : (nx p).1 = p.1.drop 8 := by show cutRest _ _ _ = _; unfold cutRest; rw [hb]; rfl
  have e8 : (p.1.take 8).length = 8 := by rw [List.length_take]; omega
  have hbv := be_val (p.1.take 8)
  rw [e8] at hbv
  exact ⟨hb2.1, by rw [o, n, hbv, List.take_append_drop]⟩
theorem lay_take {s : List UInt8} (h : okTk (s, false) = true) : rightC (takC (s, false)) = true ∧ s = layC (takC (s, false)) := by
  unfold okTk at h
  simp only [Bool.and_eq_true, Bool.not_eq_true', List.isEmpty_iff] at h
  obtain ⟨⟨h1, h2⟩, h3⟩ := h
  refine ⟨h3, ?_⟩
  unfold takR at h1 h2
  obtain ⟨b3, e3⟩ := tx_back h1
  obtain ⟨b2, e2⟩ := tx_back b3
  obtain ⟨b1, e1⟩ := be_back b2
  obtain ⟨b0, e0⟩ := tx_back b1
  rw [h2, List.append_nil] at e3
  unfold layC takC
  simp only
  rw [e3] at e2
  rw [e2] at e1
  rw [e1] at e0
  rw [List.append_assoc, List.append_assoc]
  exact e0
theorem takC_u (p : List UInt8 × Bool) : U64 (takC p).amt := numOut_u _ _
theorem tk_lay {c : Co} (hr : rightC c = true) (hv : U64 c.amt) : tkO (layC c, false) = c ∧ tkE (layC c, false) = 0 := by
  obtain ⟨h1, h2⟩ := take_lay c [] hr hv
  rw [List.append_nil] at h1 h2
  have : okTk (layC c, false) = true := by unfold okTk; rw [h1, h2, hr]; rfl
  unfold tkO tkE
  rw [this]
  exact ⟨h1, rfl⟩
theorem tk_no {s : List UInt8} (h : okTk (s, false) = false) : tkO (s, false) = noC ∧ tkE (s, false) = 190 := by
  unfold tkO tkE; rw [h]; exact ⟨rfl, rfl⟩
theorem tk_yes {s : List UInt8} (h : okTk (s, false) = true) : tkO (s, false) = takC (s, false) ∧ tkE (s, false) = 0 ∧ layO (takC (s, false)) = s ∧ layE (takC (s, false)) = 0 := by
  obtain ⟨h1, h2⟩ := lay_take h
  unfold tkO tkE layO layE
  rw [h, h1]
  exact ⟨rfl, rfl, h2.symm, rfl⟩
theorem cut_no {c : Co} (hr : rightC c = true) (hv : U64 c.amt) {k : Nat} (hk : k < (layC c).length) : okTk ((layC c).take k, false) = false := by
  rcases h : okTk ((layC c).take k, false) with _ | _
  · rfl
  · obtain ⟨h1, h2⟩ := lay_take h
    have h3 := (take_lay _ ((layC c).drop k) h1 (takC_u _)).2
    rw [← h2, List.take_append_drop] at h3
    have h4 := (take_lay c [] hr hv).2
    rw [List.append_nil, h3] at h4
    have h5 : (layC c).drop k = [] := congrArg Prod.fst h4
    have h6 := congrArg List.length h5
    rw [List.length_drop] at h6
    simp at h6
    omega
theorem more_ok {c : Co} (hr : rightC c = true) (hv : U64 c.amt) (r : List UInt8) : okTk (layC c ++ r, false) = r.isEmpty := by
  obtain ⟨h1, h2⟩ := take_lay c r hr hv
  unfold okTk
  rw [h1, h2, hr]
  simp
/-- a coin, made right -/
def mk (b : UInt8) (x : List UInt8) (m : Nat) : List UInt8 := (b :: x).take m
theorem mk_length (b : UInt8) (x : List UInt8) (m : Nat) (hm : 1 ≤ m) : 1 ≤ (mk b x m).length ∧ (mk b x m).length ≤ m := by
  unfold mk; rw [List.length_take]; simp; omega
def mkC (c : Co) : Co := ⟨mk 100 c.den 128, max c.amt 1, mk 102 c.fr 32, mk 116 c.to 32⟩
theorem mkC_right (c : Co) : rightC (mkC c) = true := by
  have h1 := mk_length 100 c.den 128 (by omega)
  have h2 := mk_length 102 c.fr 32 (by omega)
  have h3 := mk_length 116 c.to 32 (by omega)
  unfold rightC okN mkC
  simp only [Bool.and_eq_true, decide_eq_true_eq]
  omega
theorem mkC_u {c : Co} (h : U64 c.amt) : U64 (mkC c).amt := by
  have := h.lt
  unfold mkC; show max c.amt 1 < _; omega
theorem layC_pos (c : Co) : 20 ≤ (layC c).length := by unfold layC; simp [tx_length, be_length]; omega
theorem layC_le {c : Co} (h : rightC c = true) : (layC c).length ≤ 1000 := by
  obtain ⟨⟨d1, d2⟩, ⟨f1, f2⟩, ⟨t1, t2⟩, a1⟩ := right_parts h
  unfold layC; simp [tx_length, be_length]; omega
end Go.Proofs.Ytcldbipipehedaa
