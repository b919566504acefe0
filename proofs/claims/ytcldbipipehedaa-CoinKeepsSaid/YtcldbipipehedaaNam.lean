/-
  WALKS: names of escrows and vouchers, and what a voucher stands for: transfer's and the document's.
-/
import Derived.Test.YtcldbipipehedaaPrt
import Derived.Test.YtcldbipipehedaaShelf
namespace Go.Proofs.Ytcldbipipehedaa
open Go.RowKit

theorem tr_eq (l : List UInt8) : ((⟨#[116, 114, 97, 110, 115, 102, 101, 114, 47]⟩ : ByteArray) ++ ⟨l.toArray⟩) ++ ⟨#[47]⟩ = ⟨(sTransfer ++ l ++ [47]).toArray⟩ := by
  show ((⟨sTransfer.toArray⟩ : ByteArray) ++ ⟨l.toArray⟩) ++ ⟨[47].toArray⟩ = _
  rw [str_append, str_append]
theorem es_eq (l : List UInt8) : (⟨#[101, 115, 99, 114, 111, 119, 47]⟩ : ByteArray) ++ ⟨l.toArray⟩ = ⟨(sEscrow ++ l).toArray⟩ := by
  show (⟨sEscrow.toArray⟩ : ByteArray) ++ ⟨l.toArray⟩ = _
  rw [str_append]
theorem trace_any (c : Nat) (hc : U64 c) (w : World) :
    Calls Try.prog 90 #[.int .u64 c] w fun e w' => e = .returned (.string ⟨(traceL c).toArray⟩) ∧ New w w' := by
  have P := print_any c hc
  have hl := dec_len64 hc
  have HO : Hid (traceL c = sTransfer ++ dec c ++ [47]) := rfl
  generalize traceL c = t at *
  generalize dec c = l at *
  go_enter Try.func90, Try.ntmps90
  go_wp2_with fail
  refine (P _).mono ?_
  rintro e w1 ⟨rfl, n1⟩
  go_wp2_with fail
  go_ret
  exact ⟨by rw [HO.out, ← tr_eq]; rfl, n1⟩
theorem esc_any (c : Nat) (hc : U64 c) (w : World) :
    Calls Try.prog 18 #[.int .u64 c] w fun e w' => e = .returned (.string ⟨(escL c).toArray⟩) ∧ New w w' := by
  have P := print_any c hc
  have hl := dec_len64 hc
  have HO : Hid (escL c = sEscrow ++ dec c) := rfl
  generalize escL c = t at *
  generalize dec c = l at *
  go_enter Try.func18, Try.ntmps18
  go_wp2_with fail
  refine (P _).mono ?_
  rintro e w1 ⟨rfl, n1⟩
  go_wp2_with fail
  go_ret
  exact ⟨by rw [HO.out, ← es_eq]; rfl, n1⟩
theorem ahead_any (c : Nat) (hc : U64 c) (w : World) :
    Calls Try.prog 87 #[.int .u64 c] w fun e w' => e = .returned (.string ⟨(traceL c).toArray⟩) ∧ New w w' := by
  have P := fun w => print3_any c w hc
  have hl := dec_len64 hc
  have HO : Hid (traceL c = sTransfer ++ dec c ++ [47]) := rfl
  generalize traceL c = t at *
  generalize dec c = l at *
  go_enter Try.func87, Try.ntmps87
  go_wp2_with fail
  refine (P _).mono ?_
  rintro e w1 ⟨rfl, n1⟩
  go_wp2_with fail
  go_ret
  exact ⟨by rw [HO.out, ← tr_eq]; rfl, n1⟩
theorem esc2_any (c : Nat) (hc : U64 c) (w : World) :
    Calls Try.prog 46 #[.int .u64 c] w fun e w' => e = .returned (.string ⟨(escL c).toArray⟩) ∧ New w w' := by
  have P := fun w => print3_any c w hc
  have hl := dec_len64 hc
  have HO : Hid (escL c = sEscrow ++ dec c) := rfl
  generalize escL c = t at *
  generalize dec c = l at *
  go_enter Try.func46, Try.ntmps46
  go_wp2_with fail
  refine (P _).mono ?_
  rintro e w1 ⟨rfl, n1⟩
  go_wp2_with fail
  go_ret
  exact ⟨by rw [HO.out, ← es_eq]; rfl, n1⟩
theorem traceL_len {c : Nat} (hc : U64 c) : (traceL c).length ≤ 30 := by rw [traceL_length]; have := dec_len64 hc; omega
theorem over_any (c : Nat) (hc : U64 c) (d : List UInt8) (hd : d.length ≤ 9000000000000000000) (w : World) :
    Calls Try.prog 57 #[.string ⟨d.toArray⟩, .int .u64 c] w fun e w' => e = .returned (.string ⟨(vouL c d).toArray⟩) ∧ New w w' := by
  have P := trace_any c hc
  have hl := traceL_len hc
  have HO : Hid (vouL c d = traceL c ++ d) := rfl
  generalize vouL c d = t at *
  generalize traceL c = l at *
  go_enter Try.func57, Try.ntmps57
  go_wp2_with fail
  refine (P _).mono ?_
  rintro e w1 ⟨rfl, n1⟩
  go_wp2_with fail
  go_ret
  exact ⟨by rw [HO.out, ← str_append]; rfl, n1⟩
theorem vou_any (c : Nat) (hc : U64 c) (d : List UInt8) (hd : d.length ≤ 9000000000000000000) (w : World) :
    Calls Try.prog 16 #[.int .u64 c, .string ⟨d.toArray⟩] w fun e w' => e = .returned (.string ⟨(vouL c d).toArray⟩) ∧ New w w' := by
  have P := over_any c hc d hd
  go_enter Try.func16, Try.ntmps16
  go_wp2_with fail
  refine (P _).mono ?_
  rintro e w1 ⟨rfl, n1⟩
  go_wp2_with fail
  go_ret
  exact ⟨rfl, n1⟩
theorem vou2_any (c : Nat) (hc : U64 c) (d : List UInt8) (hd : d.length ≤ 9000000000000000000) (w : World) :
    Calls Try.prog 47 #[.int .u64 c, .string ⟨d.toArray⟩] w fun e w' => e = .returned (.string ⟨(vouL c d).toArray⟩) ∧ New w w' := by
  have P := ahead_any c hc
  have hl := traceL_len hc
  have HO : Hid (vouL c d = traceL c ++ d) := rfl
  generalize vouL c d = t at *
  generalize traceL c = l at *
  go_enter Try.func47, Try.ntmps47
  go_wp2_with fail
  refine (P _).mono ?_
  rintro e w1 ⟨rfl, n1⟩
  go_wp2_with fail
  go_ret
  exact ⟨by rw [HO.out, ← str_append]; rfl, n1⟩
theorem cut_any2 (d t : List UInt8) (w : World) : Calls Try.prog 91 #[.string ⟨d.toArray⟩, .string ⟨t.toArray⟩] w fun e w' => e = .returned (.tuple #[.string ⟨(Lib.trimPrefix d t).toArray⟩, .bool (t.isPrefixOf d)]) ∧ w = w' :=
  (Try.strings_CutPrefix ⟨d.toArray⟩ ⟨t.toArray⟩ w).mono fun _ _ ⟨he, hw⟩ => ⟨he, hw.symm⟩
theorem homeM_any (c : Nat) (hc : U64 c) (d : List UInt8) (w : World) :
    Calls Try.prog 58 #[.string ⟨d.toArray⟩, .int .u64 c] w fun e w' => e = .returned (.tuple #[.string ⟨(homeL c d).toArray⟩, .bool (isHome c d)]) ∧ New w w' := by
  have P := trace_any c hc
  have Q := cut_any2 d (traceL c)
  rcases h : isHome c d with _ | _
  · have HO := Lib.hid (homeL_no h)
    have h2 : (traceL c).isPrefixOf d = false := h
    rw [h2] at Q
    clear h h2
    generalize homeL c d = o at *
    go_enter Try.func58, Try.ntmps58
    go_wp2_with fail
    refine (P _).mono ?_
    rintro e w1 ⟨rfl, n1⟩
    go_wp2_with fail
    refine (Q _).mono ?_
    rintro e w' ⟨rfl, rfl⟩
    go_wp2_with fail
    go_ret2
    exact ⟨by rw [HO.out]; rfl, n1⟩
  · have h2 : (traceL c).isPrefixOf d = true := h
    have HO : Hid (homeL c d = Lib.trimPrefix d (traceL c)) := by
      rw [Hid]; unfold homeL Lib.trimPrefix Lib.hasPrefix; rw [h, h2]; rfl
    rw [h2] at Q
    clear h h2
    generalize homeL c d = o at *
    generalize Lib.trimPrefix d (traceL c) = tp at *
    go_enter Try.func58, Try.ntmps58
    go_wp2_with fail
    refine (P _).mono ?_
    rintro e w1 ⟨rfl, n1⟩
    go_wp2_with fail
    refine (Q _).mono ?_
    rintro e w' ⟨rfl, rfl⟩
    go_wp2_with fail
    go_ret2
    exact ⟨by rw [HO.out]; rfl, n1⟩
theorem home_any (c : Nat) (hc : U64 c) (d : List UInt8) (w : World) :
    Calls Try.prog 17 #[.int .u64 c, .string ⟨d.toArray⟩] w fun e w' => e = .returned (.tuple #[.string ⟨(homeL c d).toArray⟩, .bool (isHome c d)]) ∧ New w w' := by
  have P := homeM_any c hc d
  go_enter Try.func17, Try.ntmps17
  go_wp2_with fail
  refine (P _).mono ?_
  rintro e w1 ⟨rfl, n1⟩
  go_wp2_with fail
  go_ret2
  exact ⟨rfl, n1⟩
theorem home2_any (c : Nat) (hc : U64 c) (d : List UInt8) (w : World) :
    Calls Try.prog 45 #[.int .u64 c, .string ⟨d.toArray⟩] w fun e w' => e = .returned (.tuple #[.string ⟨(homeL c d).toArray⟩, .bool (isHome c d)]) ∧ New w w' := by
  have P := ahead_any c hc
  have hl := traceL_len hc
  have hpre : isHome c d = decide ((traceL c).length ≤ d.length ∧ d.take (traceL c).length = traceL c) := by
    rw [Bool.eq_iff_iff]
    unfold isHome
    rw [List.isPrefixOf_iff_prefix, decide_eq_true_iff]
    constructor
    · intro h; exact ⟨h.length_le, (List.prefix_iff_eq_take.1 h).symm⟩
    · intro h; exact List.prefix_iff_eq_take.2 h.2.symm
  by_cases h1 : (traceL c).length ≤ d.length
  · have e1 : decide (d.length < (traceL c).length) = false := by simp; omega
    by_cases h2 : d.take (traceL c).length = traceL c
    · have h3 : isHome c d = true := by rw [hpre]; exact decide_eq_true ⟨h1, h2⟩
      have HO : Hid (homeL c d = d.drop (traceL c).length) := by rw [Hid]; unfold homeL; rw [if_pos h3]
      have HP := Lib.hid h3
      have x1 := ext_take d (traceL c).length
      have x2 := ext_drop d (traceL c).length d.length (Nat.le_refl _)
      rw [h2] at x1
      clear hpre h2 h3
      generalize homeL c d = o at *
      generalize d.drop (traceL c).length = dr at *
      generalize isHome c d = b at *
      generalize traceL c = l at *
      go_enter Try.func45, Try.ntmps45
      go_wp2_with fail
      refine (P _).mono ?_
      rintro e w1 ⟨rfl, n1⟩
      go_wp2_with fail
      go_ret2
      exact ⟨by rw [HO.out, HP.out]; rfl, n1⟩
    · have h3 : isHome c d = false := by rw [hpre]; exact decide_eq_false (fun h => h2 h.2)
      have HO := Lib.hid (homeL_no h3)
      have HP := Lib.hid h3
      have x1 := ext_take d (traceL c).length
      clear hpre h3
      generalize homeL c d = o at *
      generalize isHome c d = b at *
      generalize d.take (traceL c).length = tk at *
      generalize traceL c = l at *
      have e2 : (tk == l) = false := by simpa using h2
      go_enter Try.func45, Try.ntmps45
      go_wp2_with fail
      refine (P _).mono ?_
      rintro e w1 ⟨rfl, n1⟩
      go_wp2_with fail
      go_ret2
      exact ⟨by rw [HO.out, HP.out]; rfl, n1⟩
  · have e1 : decide (d.length < (traceL c).length) = true := by simp; omega
    have h3 : isHome c d = false := by rw [hpre]; exact decide_eq_false (fun h => h1 h.1)
    have HO := Lib.hid (homeL_no h3)
    have HP := Lib.hid h3
    clear hpre h3
    generalize homeL c d = o at *
    generalize isHome c d = b at *
    generalize traceL c = l at *
    go_enter Try.func45, Try.ntmps45
    go_wp2_with fail
    refine (P _).mono ?_
    rintro e w1 ⟨rfl, n1⟩
    go_wp2_with fail
    go_ret2
    exact ⟨by rw [HO.out, HP.out]; rfl, n1⟩
end Go.Proofs.Ytcldbipipehedaa
