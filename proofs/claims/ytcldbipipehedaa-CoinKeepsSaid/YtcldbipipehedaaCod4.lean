/-
  WALKS: the document's own codec (voussoirref02): Reader.
-/
import Derived.Test.YtcldbipipehedaaCod3
import Derived.BigQuiet
import Derived.Deep.QuietTactic
namespace Go.Proofs.Ytcldbipipehedaa
open Go.RowKit

theorem val_take_lt7 (l : List UInt8) (k : Nat) (hk : k ≤ 7) : val (l.take k) < 72057594037927936 := by
  have h := val_lt (l.take k)
  have h2 : (l.take k).length ≤ 7 := by rw [List.length_take]; omega
  have h3 : 256 ^ (l.take k).length ≤ 256 ^ 7 := Nat.pow_le_pow_right (by omega) h2
  have h4 : (256 : Nat) ^ 7 = 72057594037927936 := by decide
  omega
theorem val_take_lt4 (l : List UInt8) : val (l.take 4) < 4294967296 := by
  have h := val_lt (l.take 4)
  have h2 : (l.take 4).length ≤ 4 := by rw [List.length_take]; omega
  have h3 : 256 ^ (l.take 4).length ≤ 256 ^ 4 := Nat.pow_le_pow_right (by omega) h2
  have h4 : (256 : Nat) ^ 4 = 4294967296 := by decide
  omega
theorem add_step (v c : Nat) (hv : v < 72057594037927936) (hc : c < 256) : IntKind.u64.wrap (IntKind.u64.wrap (256 * (v : Int)) + IntKind.u64.wrap (c : Int)) = ((256 * v + c : Nat) : Int) := by
  rw [IntWalk.u64_in (256 * (v : Int)) ⟨by omega, by omega⟩, IntWalk.u64_in (c : Int) ⟨by omega, by omega⟩, IntWalk.u64_in _ ⟨by omega, by omega⟩]
  omega

/-- block b is the document's Reader of the bytes l, bad or not -/
def Rd2 (w : World) (b : Nat) (l : List UInt8) (bad : Bool) : Prop := w.heap[b]? = some (.cells #[.string ⟨l.toArray⟩, .bool bad] 127 (0, 0))
theorem Rd2.lt {w : World} {b : Nat} {l : List UInt8} {bad : Bool} (h : Rd2 w b l bad) : b < w.heap.size := (Array.getElem?_eq_some_iff.1 h).1
theorem Rd2.c0 {w : World} {b : Nat} {l : List UInt8} {bad : Bool} (h : Rd2 w b l bad) : w.cell? ⟨b, 0, none⟩ = some (.string ⟨l.toArray⟩) := by rw [cell_blk h]; rfl
theorem Rd2.c1 {w : World} {b : Nat} {l : List UInt8} {bad : Bool} (h : Rd2 w b l bad) : w.cell? ⟨b, 1, none⟩ = some (.bool bad) := by rw [cell_blk h]; rfl
theorem Rd2.f0 {w : World} {b : Nat} {l : List UInt8} {bad : Bool} (h : Rd2 w b l bad) : w.frozen? ⟨b, 0, none⟩ = false := frozen_blk h 0
theorem Rd2.f1 {w : World} {b : Nat} {l : List UInt8} {bad : Bool} (h : Rd2 w b l bad) : w.frozen? ⟨b, 1, none⟩ = false := frozen_blk h 1

theorem newReader2_any (l : List UInt8) (w : World) : Calls Try.prog 83 #[.string ⟨l.toArray⟩] w fun e w' => e = .returned (.pointer (some ⟨w.heap.size, 0, none⟩)) ∧ Rd2 w' w.heap.size l false ∧ New w w' := by
  go_enter Try.func83, Try.ntmps83
  go_wp2
  go_ret
  exact ⟨rfl, heap_alloc_new w _, (Keeps.refl _ _).alloc _⟩

theorem end2_any (b : Nat) (l : List UInt8) (bad : Bool) (w : World) (h : Rd2 w b l bad) : Calls Try.prog 86 #[.pointer (some ⟨b, 0, none⟩)] w fun e w' => e = .returned (.bool (!bad && l.isEmpty)) ∧ w = w' := by
  have h0 := h.c0
  have h1 := h.c1
  cases bad
  · go_enter Try.func86, Try.ntmps86
    go_wp2
    go_ret
    exact ⟨by simp, rfl⟩
  · go_enter Try.func86, Try.ntmps86
    go_wp2
    go_ret
    exact ⟨by simp, rfl⟩

theorem take_bad (b : Nat) (l : List UInt8) (bad : Bool) (n : Nat) (w : World) (e : cutBad l bad n = true) (h : Rd2 w b l bad) :
    Calls Try.prog 100 #[.pointer (some ⟨b, 0, none⟩), .int .i64 n] w fun e w' => e = .returned (.int .u64 0) ∧ Rd2 w' b l true ∧ Keeps (fun k => k = b) w w' := by
  have h0 := h.c0
  have h1 := h.c1
  have f1 := h.f1
  cases bad
  · have hlt : l.length < n := by simpa [cutBad] using e
    clear e
    go_enter Try.func100, Try.ntmps100
    go_wp2_with fail
    go_ret
    exact ⟨rfl, (heap_setCell_blk h 1 _).trans (by simp), New.set1 (Keeps.refl _ _) b 1 _⟩
  · clear e
    go_enter Try.func100, Try.ntmps100
    go_wp2_with fail
    go_ret
    exact ⟨rfl, (heap_setCell_blk h 1 _).trans (by simp), New.set1 (Keeps.refl _ _) b 1 _⟩

set_option maxHeartbeats 1000000 in
set_option maxRecDepth 100000 in
theorem take_ok (b : Nat) (l : List UInt8) (n : Nat) (w : World) (h8 : n ≤ 8) (hn : n ≤ l.length) (h : Rd2 w b l false) :
    Calls Try.prog 100 #[.pointer (some ⟨b, 0, none⟩), .int .i64 n] w fun e w' => e = .returned (.int .u64 (val (l.take n))) ∧ Rd2 w' b (l.drop n) false ∧ Keeps (fun k => k = b) w w' := by
  have h0 := h.c0
  have h1 := h.c1
  have f0 := h.f0
  go_enter Try.func100, Try.ntmps100
  go_wp2_with fail
  go_loop [5, 6] (fun m i => ∃ k : Nat, k ≤ n ∧ i = .int .i64 k ∧ m = .int .u64 (val (l.take k))) (fun _ i => n - (intOf i).toNat)
  case atStart => exact ⟨0, Nat.zero_le _, rfl, rfl⟩
  case round =>
    obtain ⟨k, hk, rfl, rfl⟩ := hrel
    by_cases hlt : k < n
    · have hlt2 : k < l.length := by omega
      go_wp2_with fail
      go_round
      case rel =>
        refine ⟨k + 1, by omega, by go_num, ?_⟩
        exact congrArg (Value.int .u64) ((add_step _ _ (val_take_lt7 l k (by omega)) (UInt8.toNat_lt _)).trans (by rw [val_take_succ l k hlt2]; rfl))
      case measure => simp [intOf]; omega
    · obtain rfl : k = n := by omega
      go_wp2_with fail
      go_ret
      exact ⟨rfl, (heap_setCell_blk h 0 _).trans (by simp [ext_drop]), New.set1 (Keeps.refl _ _) b 0 _⟩
theorem rnum2_any (b : Nat) (l : List UInt8) (bad : Bool) (w : World) (h : Rd2 w b l bad) :
    Calls Try.prog 85 #[.pointer (some ⟨b, 0, none⟩)] w fun e w' => e = .returned (.int .u64 (numOut l bad)) ∧ Rd2 w' b (cutRest l bad 8) (cutBad l bad 8) ∧ Keeps (fun k => k = b) w w' := by
  by_cases hb : cutBad l bad 8 = true
  · have HB := Lib.hid hb
    clear hb
    go_enter Try.func85, Try.ntmps85
    go_wp2_with fail
    refine (take_bad b l bad 8 w HB.out h).mono ?_
    rintro e w1 ⟨rfl, h1, k1⟩
    go_wp2_with fail
    go_ret
    exact ⟨ret_int (by simp [numOut, HB.out]), by simpa [cutRest, HB.out] using h1, k1⟩
  · have hb' : cutBad l bad 8 = false := by simpa using hb
    have hf : bad = false := by cases bad <;> simp_all [cutBad]
    subst hf
    have hl : 8 ≤ l.length := by simpa [cutBad] using hb'
    have HB := Lib.hid hb'
    clear hb hb'
    go_enter Try.func85, Try.ntmps85
    go_wp2_with fail
    refine (take_ok b l 8 w (by omega) hl h).mono ?_
    rintro e w1 ⟨rfl, h1, k1⟩
    go_wp2_with fail
    go_ret
    exact ⟨ret_int (by simp [numOut, HB.out]), by rw [cutRest, HB.out]; exact h1, k1⟩

theorem rtext2_any (b : Nat) (l : List UInt8) (bad : Bool) (most : Int) (w : World) (h : Rd2 w b l bad) :
    Calls Try.prog 84 #[.pointer (some ⟨b, 0, none⟩), .int .i64 most] w fun e w' => e = .returned (.string ⟨(textOut l bad most).toArray⟩) ∧ Rd2 w' b (textRest l bad most) (textBad l bad most) ∧ Keeps (fun k => k = b) w w' := by
  by_cases hb : cutBad l bad 4 = true
  · have HB := Lib.hid hb
    clear hb
    go_enter Try.func84, Try.ntmps84
    go_wp2_with fail
    refine (take_bad b l bad 4 w HB.out h).mono ?_
    rintro e w1 ⟨rfl, h1, k1⟩
    have c1 := h1.c1
    have f1 := h1.f1
    go_wp2_with fail
    go_ret
    exact ⟨ret_str (by simp [textOut, textBad, HB.out]), by rw [textRest, textBad, HB.out]; exact (heap_setCell_blk h1 1 _).trans (by simp), k1.set1 1 _⟩
  · have hb' : cutBad l bad 4 = false := by simpa using hb
    have hf : bad = false := by cases bad <;> simp_all [cutBad]
    subst hf
    have hl : 4 ≤ l.length := by simpa [cutBad] using hb'
    have hv := val_take_lt4 l
    have HB := Lib.hid hb'
    clear hb hb'
    obtain ⟨n, hn⟩ : ∃ n, n = val (l.take 4) := ⟨_, rfl⟩
    rw [← hn] at hv
    have HN := Lib.hid hn
    clear hn
    by_cases hm : most < (n : Int)
    · go_enter Try.func84, Try.ntmps84
      go_wp2_with fail
      refine (take_ok b l 4 w (by omega) hl h).mono ?_
      rintro e w1 ⟨rfl, h1, k1⟩
      rw [← HN.out]
      have c0 := h1.c0
      have c1 := h1.c1
      have f1 := h1.f1
      go_wp2_with fail
      go_ret
      have e : textBad l false most = true := by simp [textBad, ← HN.out, hm]
      exact ⟨ret_str (by simp [textOut, e]), by rw [textRest, HB.out, e]; exact (heap_setCell_blk h1 1 _).trans (by simp), k1.set1 1 _⟩
    · have hm2 : decide (most < (n : Int)) = false := by simpa using hm
      by_cases hs : l.length - 4 < n
      · have hd : decide (l.length - 4 < n) = true := by simpa using hs
        go_enter Try.func84, Try.ntmps84
        go_wp2_with fail
        refine (take_ok b l 4 w (by omega) hl h).mono ?_
        rintro e w1 ⟨rfl, h1, k1⟩
        rw [← HN.out]
        have c0 := h1.c0
        have c1 := h1.c1
        have f1 := h1.f1
        go_wp2_with fail
        go_ret
        have e : textBad l false most = true := by rw [textBad, ← HN.out, List.length_drop, decide_eq_true hs]; simp
        exact ⟨ret_str (by simp [textOut, e]), by rw [textRest, HB.out, e]; exact (heap_setCell_blk h1 1 _).trans (by simp), k1.set1 1 _⟩
      · have hs2 : decide (l.length - 4 < n) = false := by simpa using hs
        have e : textBad l false most = false := by rw [textBad, ← HN.out, List.length_drop, hs2, hm2, HB.out]; rfl
        have E := Lib.hid e
        clear e hm2
        go_enter Try.func84, Try.ntmps84
        go_wp2_with fail
        refine (take_ok b l 4 w (by omega) hl h).mono ?_
        rintro e w1 ⟨rfl, h1, k1⟩
        rw [← HN.out]
        have c0 := h1.c0
        have c1 := h1.c1
        have f0 := h1.f0
        go_wp2_with fail
        go_ret
        refine ⟨ret_str ?_, ?_, k1.set1 0 _⟩
        · rw [textOut, E.out, ← HN.out]; simp [ext_take]
        · rw [textRest, HB.out, E.out, ← HN.out]; exact (heap_setCell_blk h1 0 _).trans (by simp [ext_drop])
end Go.Proofs.Ytcldbipipehedaa
