/-
  voussoirlaw02.CodecOrder: the walk, and the plain law beneath: big-endian bytes are ordered as the numbers.
-/
import Derived.Test.YtclldibadmnppaaItm
import Derived.Deep.CutRange
import Derived.WalkLawsBesides
import Derived.BigQuiet
import Derived.Deep.QuietTactic
namespace Go.Proofs.Ytclldibadmnppaa
open Go.RowKit

theorem val_fold (l : List UInt8) : ∀ a : Nat, l.foldl (fun n c => 256 * n + c.toNat) a = a * 256 ^ l.length + val l := by
  induction l with
  | nil => intro a; simp [val]
  | cons c l ih =>
    intro a
    have h1 := ih (256 * a + c.toNat)
    have h2 := ih c.toNat
    have h3 : val (c :: l) = c.toNat * 256 ^ l.length + val l := by
      show List.foldl _ (256 * 0 + c.toNat) l = _
      rw [Nat.mul_zero, Nat.zero_add]; exact h2
    rw [List.foldl_cons, h1, h3, List.length_cons, Nat.pow_succ, Nat.add_mul, Nat.mul_comm 256 a, Nat.mul_assoc a 256, Nat.mul_comm 256 (256 ^ l.length), Nat.add_assoc]
theorem val_cons (c : UInt8) (l : List UInt8) : val (c :: l) = c.toNat * 256 ^ l.length + val l := by
  have h := val_fold l c.toNat
  show List.foldl _ (256 * 0 + c.toNat) l = _
  rw [Nat.mul_zero, Nat.zero_add]; exact h
/-- byte by byte, of texts of one length: the order of the numbers that they spell -/
theorem less_val : ∀ x y : List UInt8, x.length = y.length → Op.bytesLess x y = decide (val x < val y) := by
  intro x
  induction x with
  | nil =>
    intro y h
    cases y with
    | nil => simp [Op.bytesLess]
    | cons c y => simp at h
  | cons a x ih =>
    intro y h
    cases y with
    | nil => simp at h
    | cons b y =>
      have hl : x.length = y.length := by simpa using h
      have hx := val_lt x
      have hy := val_lt y
      rw [val_cons, val_cons, Op.bytesLess, ih y hl, hl]
      rw [hl] at hx
      generalize 256 ^ y.length = P at *
      by_cases h1 : a.toNat < b.toNat
      · have h2 : (a < b) = True := by simpa [UInt8.lt_iff_toNat_lt] using h1
        have h3 : (a.toNat + 1) * P ≤ b.toNat * P := Nat.mul_le_mul_right _ h1
        rw [Nat.add_mul] at h3
        have h4 : a.toNat * P + val x < b.toNat * P + val y := by omega
        simp [h2, h4]
      · have h2 : ¬ a < b := by simpa [UInt8.lt_iff_toNat_lt] using h1
        by_cases h3 : a = b
        · subst h3
          have h4 : (a.toNat * P + val x < a.toNat * P + val y) ↔ val x < val y := by omega
          simp [h2, h4]
        · have h5 : ¬ a.toNat = b.toNat := fun e => h3 (UInt8.toNat_inj.1 e)
          have h6 : (b.toNat + 1) * P ≤ a.toNat * P := Nat.mul_le_mul_right _ (by omega)
          rw [Nat.add_mul] at h6
          have h4 : ¬ (a.toNat * P + val x < b.toNat * P + val y) := by omega
          simp [h2, h3, h4]
theorem less_append (p x y : List UInt8) : Op.bytesLess (p ++ x) (p ++ y) = Op.bytesLess x y := by
  induction p with
  | nil => rfl
  | cons a p ih =>
    have h : ¬ a < a := by simp
    simp [Op.bytesLess, h, ih]
theorem be_less (a b : Nat) (ha : U64 a) (hb : U64 b) : Op.bytesLess (be 8 a) (be 8 b) = decide ((a : Int) < (b : Int)) := by
  rw [less_val _ _ (by rw [be_length, be_length]), val_be 8 a ha, val_be 8 b hb]
  simp
theorem be_beq (a b : Nat) (ha : U64 a) (hb : U64 b) : (be 8 a == be 8 b) = ((a : Int) == (b : Int)) := by
  by_cases h : a = b
  · subst h; simp
  · have h1 : ¬ be 8 a = be 8 b := fun e => h (be_inj 8 a b ha hb e)
    have h2 : ¬ (a : Int) = (b : Int) := by omega
    rw [beq_eq_false_iff_ne.2 h1, beq_eq_false_iff_ne.2 h2]

theorem one_item (w : World) (t : Bool) (n : Nat) (s : List UInt8) (T : TypeId) (hn : U64 n) : Items (w.alloc (.cells #[.bool t, .int .u64 n, .string ⟨s.toArray⟩] T)) (some ⟨w.heap.size, 0, none⟩) [⟨t, n, s⟩] := by
  intro i x hx
  refine ⟨w.heap.size, 0, rfl, by simp, ?_⟩
  have hb := heap_alloc_new w (.cells #[.bool t, .int .u64 n, .string ⟨s.toArray⟩] T)
  match i, hx with
  | 0, hx => simp at hx; subst hx; exact ⟨hn, by rw [cell_blk hb]; rfl, by rw [cell_blk hb]; rfl, by rw [cell_blk hb]; rfl⟩

set_option maxHeartbeats 1000000 in
set_option maxRecDepth 100000 in
theorem order_walk (a b : Nat) (s t : List UInt8) (w : World) (ha : U64 a) (hb : U64 b) (hs : s.length ≤ 9223372036854775807) (ht : t.length ≤ 9223372036854775807) :
    Calls Try.prog 14 #[.int .u64 a, .int .u64 b, .string ⟨s.toArray⟩, .string ⟨t.toArray⟩] w fun e w' => e = .returned (.bool true) ∧ New w w' := by
  go_enter Try.func14, Try.ntmps14
  go_wp2_with fail
  refine (awake_any w).mono ?_
  rintro e w1 ⟨rfl, k1⟩
  go_upto_region 2 with (fail)
  go_cut [10] from 16 (fun n wc => ∃ k : Nat, n = .int .i64 k ∧ k ≤ s.length ∧ k ≤ t.length ∧ k ≤ 1000 ∧ wc = w1)
  case first =>
    go_wp2_with fail
    all_goals (
      go_meet
      case rel =>
        first
          | exact ⟨1000, rfl, by split at * <;> omega, by split at * <;> omega, by omega, rfl⟩
          | exact ⟨t.length, rfl, by split at * <;> omega, by split at * <;> omega, by split at * <;> omega, rfl⟩
          | exact ⟨s.length, rfl, by split at * <;> omega, by split at * <;> omega, by split at * <;> omega, rfl⟩)
  case rest =>
    obtain ⟨k, rfl, hks, hkt, hk, rfl⟩ := hcut
    have e1 : lays [⟨false, a, []⟩] = be 8 a := lays_one _
    have e2 : lays [⟨false, b, []⟩] = be 8 b := lays_one _
    have e3 : lays [⟨true, 0, s.take k⟩] = be 4 k ++ s.take k := by rw [lays_one]; simp [It.lay, Nat.min_eq_left hks]
    have e4 : lays [⟨true, 0, t.take k⟩] = be 4 k ++ t.take k := by rw [lays_one]; simp [It.lay, Nat.min_eq_left hkt]
    have E1 := Lib.hid e1
    have E2 := Lib.hid e2
    have E3 := Lib.hid e3
    have E4 := Lib.hid e4
    clear e1 e2 e3 e4
    go_wp2_with fail
    refine (laid_any _ 1 1 [⟨false, a, []⟩] _ rfl (by omega) (by rw [E1.out, be_length]; omega) (one_item wc false a [] _ ha)).mono ?_
    rw [E1.out]
    rintro e w2 ⟨rfl, k2⟩
    go_wp2_with fail
    refine (laid_any _ 1 1 [⟨false, b, []⟩] _ rfl (by omega) (by rw [E2.out, be_length]; omega) (one_item w2 false b [] _ hb)).mono ?_
    rw [E2.out]
    rintro e w3 ⟨rfl, k3⟩
    go_wp2_with fail
    simp only [ext_take]
    refine (laid_any _ 1 1 [⟨true, 0, s.take k⟩] _ rfl (by omega) (by rw [E3.out, List.length_append, be_length, List.length_take]; omega) (one_item w3 true 0 (s.take k) _ (by unfold U64; omega))).mono ?_
    rw [E3.out]
    rintro e w4 ⟨rfl, k4⟩
    go_wp2_with fail
    simp only [ext_take]
    refine (laid_any _ 1 1 [⟨true, 0, t.take k⟩] _ rfl (by omega) (by rw [E4.out, List.length_append, be_length, List.length_take]; omega) (one_item w4 true 0 (t.take k) _ (by unfold U64; omega))).mono ?_
    rw [E4.out]
    rintro e w5 ⟨rfl, k5⟩
    have kk : New w w5 := (((k1.then ((Keeps.refl _ _).alloc _ |>.then k2 (fun _ h => .inl h)) (fun _ h => .inl h)).then ((Keeps.refl _ _).alloc _ |>.then k3 (fun _ h => .inl h)) (fun _ h => .inl h)).then ((Keeps.refl _ _).alloc _ |>.then k4 (fun _ h => .inl h)) (fun _ h => .inl h)).then ((Keeps.refl _ _).alloc _ |>.then k5 (fun _ h => .inl h)) (fun _ h => .inl h)
    have hl8 : (be 8 a).length = 8 := be_length _ _
    go_wp2_with fail
    have h1 : Op.bytesLess (be 8 a) (be 8 b) = decide ((a : Int) < (b : Int)) := be_less a b ha hb
    have h2 : (be 8 a == be 8 b) = ((a : Int) == (b : Int)) := be_beq a b ha hb
    have h3 : Op.bytesLess (be 4 k ++ s.take k) (be 4 k ++ t.take k) = Op.bytesLess (s.take k) (t.take k) := less_append _ _ _
    have h4 : (be 4 k ++ s.take k == be 4 k ++ t.take k) = (s.take k == t.take k) := by
      rw [Bool.eq_iff_iff]; simp
    have x1 := ext_take s k
    have x2 := ext_take t k
    go_quiet (fail)
    go_wp2
    go_ret
    exact ⟨rfl, kk.drewN _⟩
end Go.Proofs.Ytclldibadmnppaa
