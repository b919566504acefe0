/-
  WALKS: codec.Reader: NewReader, cut, value, Num, Text, Bad, End.
-/
import Derived.Test.YtcldbipipehedaaCod1
namespace Go.Proofs.Ytcldbipipehedaa
open Go.RowKit

/-- block b is a Reader of the bytes l, bad or not -/
def Rd (w : World) (b : Nat) (l : List UInt8) (bad : Bool) : Prop := w.heap[b]? = some (.cells #[.string ⟨l.toArray⟩, .bool bad] 125 (0, 0))

def cutBad (l : List UInt8) (bad : Bool) (n : Nat) : Bool := bad || decide (l.length < n)
def cutRest (l : List UInt8) (bad : Bool) (n : Nat) : List UInt8 := if cutBad l bad n then l else l.drop n
def cutOut (l : List UInt8) (bad : Bool) (n : Nat) : List UInt8 := if cutBad l bad n then [] else l.take n

theorem Rd.lt {w : World} {b : Nat} {l : List UInt8} {bad : Bool} (h : Rd w b l bad) : b < w.heap.size := (Array.getElem?_eq_some_iff.1 h).1
theorem Rd.c0 {w : World} {b : Nat} {l : List UInt8} {bad : Bool} (h : Rd w b l bad) : w.cell? ⟨b, 0, none⟩ = some (.string ⟨l.toArray⟩) := by rw [cell_blk h]; rfl
theorem Rd.c1 {w : World} {b : Nat} {l : List UInt8} {bad : Bool} (h : Rd w b l bad) : w.cell? ⟨b, 1, none⟩ = some (.bool bad) := by rw [cell_blk h]; rfl
theorem Rd.f0 {w : World} {b : Nat} {l : List UInt8} {bad : Bool} (h : Rd w b l bad) : w.frozen? ⟨b, 0, none⟩ = false := frozen_blk h 0
theorem Rd.f1 {w : World} {b : Nat} {l : List UInt8} {bad : Bool} (h : Rd w b l bad) : w.frozen? ⟨b, 1, none⟩ = false := frozen_blk h 1

theorem newReader_any (l : List UInt8) (w : World) : Calls Try.prog 79 #[.string ⟨l.toArray⟩] w fun e w' => e = .returned (.pointer (some ⟨w.heap.size, 0, none⟩)) ∧ Rd w' w.heap.size l false ∧ New w w' := by
  go_enter Try.func79, Try.ntmps79
  go_wp2
  go_ret
  exact ⟨rfl, heap_alloc_new w _, (Keeps.refl _ _).alloc _⟩

theorem end_any (b : Nat) (l : List UInt8) (bad : Bool) (w : World) (h : Rd w b l bad) : Calls Try.prog 82 #[.pointer (some ⟨b, 0, none⟩)] w fun e w' => e = .returned (.bool (!bad && l.isEmpty)) ∧ w = w' := by
  have h0 := h.c0
  have h1 := h.c1
  cases bad
  · go_enter Try.func82, Try.ntmps82
    go_wp2
    go_ret
    exact ⟨by simp, rfl⟩
  · go_enter Try.func82, Try.ntmps82
    go_wp2
    go_ret
    exact ⟨by simp, rfl⟩

theorem cut_any (b : Nat) (l : List UInt8) (bad : Bool) (n : Nat) (w : World) (h : Rd w b l bad) :
    Calls Try.prog 98 #[.pointer (some ⟨b, 0, none⟩), .int .i64 n] w fun e w' => e = .returned (.string ⟨(cutOut l bad n).toArray⟩) ∧ Rd w' b (cutRest l bad n) (cutBad l bad n) ∧ Keeps (fun k => k = b) w w' := by
  have h0 := h.c0
  have h1 := h.c1
  have f0 := h.f0
  have f1 := h.f1
  cases bad
  · by_cases hlt : l.length < n
    · go_enter Try.func98, Try.ntmps98
      go_wp2
      go_ret
      have e : cutBad l false n = true := by simp [cutBad, hlt]
      refine ⟨ret_str (by simp [cutOut, e]), ?_, Keeps.setCell (Keeps.refl _ _) (by exact .inl rfl) _⟩
      simp only [cutRest, e, if_true]
      exact (heap_setCell_blk h 1 _).trans (by simp)
    · go_enter Try.func98, Try.ntmps98
      go_wp2
      go_ret
      have e : cutBad l false n = false := by simp [cutBad]; omega
      refine ⟨ret_str (by simp [cutOut, e, ext_take]), ?_, Keeps.setCell (Keeps.setCell (Keeps.refl _ _) (by exact .inl rfl) _) (by exact .inl rfl) _⟩
      simp only [cutRest, e]
      exact (heap_setCell_blk (heap_setCell_blk h 1 _) 0 _).trans (by simp [ext_drop])
  · go_enter Try.func98, Try.ntmps98
    go_wp2
    go_ret
    refine ⟨ret_str (by simp [cutOut, cutBad]), ?_, Keeps.setCell (Keeps.refl _ _) (by exact .inl rfl) _⟩
    simp only [cutRest, cutBad, Bool.true_or, if_true]
    exact (heap_setCell_blk h 1 _).trans (by simp)

set_option maxHeartbeats 1000000 in
set_option maxRecDepth 100000 in
theorem value_any (l : List UInt8) (w : World) (hl : l.length ≤ 8) : Calls Try.prog 99 #[.string ⟨l.toArray⟩] w fun e w' => e = .returned (.int .u64 (val l)) ∧ New w w' := by
  obtain ⟨cap, C, F, hconv, hcap, hC⟩ := bytes_of_string (P := Try.prog) w 9 114 5 l Try.underlying9 Try.underlying114 Try.underlying5
  go_enter Try.func99, Try.ntmps99
  go_wp2
  go_loop [2, 8] (fun n i => ∃ k : Nat, k ≤ l.length ∧ i = .int .i64 k ∧ n = .int .u64 (val (l.take k))) (fun _ i => l.length - (intOf i).toNat)
  case atStart => exact ⟨0, Nat.zero_le _, rfl, rfl⟩
  case round =>
    obtain ⟨k, hk, rfl, rfl⟩ := hrel
    by_cases hlt : k < l.length
    · have hcell : (w.alloc (.cells C 5 F)).cell? ⟨w.heap.size, k, none⟩ = some (.int .u8 (l[k].toNat : Int)) := by
        rw [cell_blk (heap_alloc_new w _)]; exact hC k hlt
      go_wp2
      go_round
      case rel => 
        refine ⟨k + 1, by omega, by go_num, ?_⟩
        exact congrArg (Value.int .u64) ((or_step _ _ (val_take_lt l k hlt hl) (l[k]).toNat_lt).trans (by rw [val_take_succ l k hlt]))
      case measure => simp [intOf]; omega
    · obtain rfl : k = l.length := by omega
      go_wp2
      go_ret
      exact ⟨ret_int (by simp), (Keeps.refl _ _).alloc _ |>.drew⟩
theorem cut_ok (b : Nat) (l : List UInt8) (n : Nat) (w : World) (hn : n ≤ l.length) (h : Rd w b l false) :
    Calls Try.prog 98 #[.pointer (some ⟨b, 0, none⟩), .int .i64 n] w fun e w' => e = .returned (.string ⟨(l.take n).toArray⟩) ∧ Rd w' b (l.drop n) false ∧ Keeps (fun k => k = b) w w' := by
  have e : cutBad l false n = false := by simp [cutBad]; omega
  have H := cut_any b l false n w h
  simpa [cutOut, cutRest, e] using H
theorem cut_bad (b : Nat) (l : List UInt8) (bad : Bool) (n : Nat) (w : World) (e : cutBad l bad n = true) (h : Rd w b l bad) :
    Calls Try.prog 98 #[.pointer (some ⟨b, 0, none⟩), .int .i64 n] w fun e w' => e = .returned (.string ⟨#[]⟩) ∧ Rd w' b l true ∧ Keeps (fun k => k = b) w w' := by
  have H := cut_any b l bad n w h
  simpa [cutOut, cutRest, e] using H

def numOut (l : List UInt8) (bad : Bool) : Nat := if cutBad l bad 8 then 0 else val (l.take 8)

theorem rnum_any (b : Nat) (l : List UInt8) (bad : Bool) (w : World) (h : Rd w b l bad) :
    Calls Try.prog 81 #[.pointer (some ⟨b, 0, none⟩)] w fun e w' => e = .returned (.int .u64 (numOut l bad)) ∧ Rd w' b (cutRest l bad 8) (cutBad l bad 8) ∧ Keeps (fun k => k = b) w w' := by
  by_cases hb : cutBad l bad 8 = true
  · have HB := Lib.hid hb
    clear hb
    go_enter Try.func81, Try.ntmps81
    go_wp2_with fail
    refine (cut_bad b l bad 8 w HB.out h).mono ?_
    rintro e w1 ⟨rfl, h1, k1⟩
    have c1 := h1.c1
    go_wp2_with fail
    go_ret
    exact ⟨ret_int (by simp [numOut, HB.out]), by simpa [cutRest, HB.out] using h1, k1⟩
  · have hb' : cutBad l bad 8 = false := by simpa using hb
    have hf : bad = false := by cases bad <;> simp_all [cutBad]
    subst hf
    have hl : 8 ≤ l.length := by simpa [cutBad] using hb'
    have HB := Lib.hid hb'
    clear hb hb'
    go_enter Try.func81, Try.ntmps81
    go_wp2_with fail
    refine (cut_ok b l 8 w hl h).mono ?_
    rintro e w1 ⟨rfl, h1, k1⟩
    have c1 := h1.c1
    go_wp2_with fail
    refine (value_any (l.take 8) w1 (by simp; omega)).mono ?_
    rintro e w2 ⟨rfl, k2⟩
    go_wp2_with fail
    go_ret
    exact ⟨ret_int (by simp [numOut, HB.out]), by rw [cutRest, HB.out]; exact k2.kept h1 (fun h => h), k1.then k2 (fun _ h => h.elim)⟩

def textBad (l : List UInt8) (bad : Bool) (most : Int) : Bool := cutBad l bad 4 || decide (most < (val (l.take 4) : Int)) || decide ((l.drop 4).length < val (l.take 4))
def textRest (l : List UInt8) (bad : Bool) (most : Int) : List UInt8 := if cutBad l bad 4 then l else if textBad l bad most then l.drop 4 else (l.drop 4).drop (val (l.take 4))
def textOut (l : List UInt8) (bad : Bool) (most : Int) : List UInt8 := if textBad l bad most then [] else (l.drop 4).take (val (l.take 4))

theorem rtext_any (b : Nat) (l : List UInt8) (bad : Bool) (most : Int) (w : World) (h : Rd w b l bad) :
    Calls Try.prog 80 #[.pointer (some ⟨b, 0, none⟩), .int .i64 most] w fun e w' => e = .returned (.string ⟨(textOut l bad most).toArray⟩) ∧ Rd w' b (textRest l bad most) (textBad l bad most) ∧ Keeps (fun k => k = b) w w' := by
  by_cases hb : cutBad l bad 4 = true
  · have HB := Lib.hid hb
    clear hb
    go_enter Try.func80, Try.ntmps80
    go_wp2_with fail
    refine (cut_bad b l bad 4 w HB.out h).mono ?_
    rintro e w1 ⟨rfl, h1, k1⟩
    have c1 := h1.c1
    go_wp2_with fail
    go_ret
    exact ⟨ret_str (by simp [textOut, textBad, HB.out]), by simpa [textRest, textBad, HB.out] using h1, k1⟩
  · have hb' : cutBad l bad 4 = false := by simpa using hb
    have hf : bad = false := by cases bad <;> simp_all [cutBad]
    subst hf
    have hl : 4 ≤ l.length := by simpa [cutBad] using hb'
    have hv : val (l.take 4) < 4294967296 := by
      have := val_lt (l.take 4)
      have e : (l.take 4).length = 4 := by simp; omega
      rw [e] at this
      exact this
    have HB := Lib.hid hb'
    clear hb hb'
    obtain ⟨n, hn⟩ : ∃ n, n = val (l.take 4) := ⟨_, rfl⟩
    rw [← hn] at hv
    have HN := Lib.hid hn
    clear hn
    by_cases hm : most < (n : Int)
    · go_enter Try.func80, Try.ntmps80
      go_wp2_with fail
      refine (cut_ok b l 4 w hl h).mono ?_
      rintro e w1 ⟨rfl, h1, k1⟩
      have c1 := h1.c1
      go_wp2_with fail
      refine (value_any (l.take 4) w1 (by simp; omega)).mono ?_
      rintro e w2 ⟨rfl, k2⟩
      rw [← HN.out]
      have h2 : Rd w2 b (l.drop 4) false := k2.kept h1 (fun h => h)
      have c2 := h2.c1
      have f2 := h2.f1
      go_wp2_with fail
      refine (cut_bad b (l.drop 4) true n _ (by simp [cutBad]) ((heap_setCell_blk h2 1 _).trans (by simp))).mono ?_
      rintro e w3 ⟨rfl, h3, k3⟩
      go_wp2_with fail
      go_ret
      have e : textBad l false most = true := by simp [textBad, ← HN.out, hm]
      refine ⟨ret_str (by simp [textOut, e]), by simpa [textRest, HB.out, e] using h3, ?_⟩
      exact (Keeps.setCell (k1.then k2 (fun _ h => h.elim)) (by exact .inl rfl) _).then k3 (fun _ h => .inl h)
    · go_enter Try.func80, Try.ntmps80
      go_wp2_with fail
      refine (cut_ok b l 4 w hl h).mono ?_
      rintro e w1 ⟨rfl, h1, k1⟩
      have c1 := h1.c1
      go_wp2_with fail
      refine (value_any (l.take 4) w1 (by simp; omega)).mono ?_
      rintro e w2 ⟨rfl, k2⟩
      rw [← HN.out]
      have h2 : Rd w2 b (l.drop 4) false := k2.kept h1 (fun h => h)
      have c2 := h2.c1
      have f2 := h2.f1
      go_wp2_with fail
      refine (cut_any b (l.drop 4) false n w2 h2).mono ?_
      rintro e w3 ⟨rfl, h3, k3⟩
      go_wp2_with fail
      go_ret
      have e : textBad l false most = cutBad (l.drop 4) false n := by
        have hm2 : decide (most < (n : Int)) = false := by simpa using hm
        rw [textBad, HB.out, ← HN.out, hm2]
        simp [cutBad]
      refine ⟨ret_str (by rw [textOut, e, cutOut, ← HN.out]), ?_, (k1.then k2 (fun _ h => h.elim)).then k3 (fun _ h => .inl h)⟩
      rw [textRest, e, HB.out, ← HN.out]
      exact h3
end Go.Proofs.Ytcldbipipehedaa
