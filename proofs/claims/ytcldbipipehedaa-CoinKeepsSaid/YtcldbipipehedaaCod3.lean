/-
  WALKS: the document's own codec (voussoirref02): number, Writer, Reader.
-/
import Derived.Test.YtcldbipipehedaaCod2
import Derived.Deep.OwnRows
import Derived.Deep.RegionWith
import Derived.WalkLawsBesides
import Derived.WalkSpells
namespace Go.Proofs.Ytcldbipipehedaa
open Go.RowKit

set_option maxHeartbeats 1000000 in
set_option maxRecDepth 100000 in
theorem number_any (n size : Nat) (w : World) (h1 : 1 ≤ size) (h8 : size ≤ 8) (hn : U64 n) :
    Calls Try.prog 97 #[.int .u64 n, .int .i64 size] w fun e w' => e = .returned (.string ⟨(be size n).toArray⟩) ∧ New w w' := by
  have hmk := run_make_row' (P := Try.prog) 114 5 (.int .u8 0) 1 Try.underlying114 infoB rfl .i64 .i64 size (by omega) (by omega)
  go_enter Try.func97, Try.ntmps97
  go_wp2
  go_loopw [0, 6] (fun m i wr => ∃ j : Nat, j ≤ size ∧ m = .int .u64 ((n / 256 ^ j : Nat) : Int) ∧ i = .int .i64 ((size : Int) - 1 - (j : Int)) ∧ wr.heap[w.heap.size]? = some (.cells (bytesV (numTo size n j)).toArray 5 (0, 0)) ∧ New w wr)
    (fun _ i _ => (intOf i + 1).toNat)
  case atStart =>
    refine ⟨0, Nat.zero_le _, by simp, by simp, ?_, (Keeps.refl _ _).alloc _⟩
    rw [heap_alloc_new, madeCells_one, numTo_zero]
    simp [bytesV]
  case round =>
    obtain ⟨j, hj, rfl, rfl, hb, hk⟩ := hrel
    by_cases hlt : j < size
    · obtain ⟨m, hm⟩ : ∃ m, m = n / 256 ^ j := ⟨_, rfl⟩
      have hcell : wr.cell? ⟨w.heap.size, size - 1 - j, none⟩ ≠ none := by
        rw [cell_blk hb]
        simp [bytesV, numTo_length]
        omega
      obtain ⟨u, hu⟩ := Option.ne_none_iff_exists'.1 hcell
      have hfz := frozen_blk hb (size - 1 - j)
      rw [← hm]
      have HM := Lib.hid hm
      have hmu : U64 m := by rw [hm]; exact Nat.lt_of_le_of_lt (Nat.div_le_self _ _) hn
      have HU := Lib.hid hmu
      have hst := heap_setCell_blk hb (size - 1 - j) (.int .u8 ((m : Int) % 256))
      have hst2 : (wr.setCell ⟨w.heap.size, size - 1 - j, none⟩ (.int .u8 ((m : Int) % 256))).heap[w.heap.size]? = some (.cells (bytesV (numTo size n (j + 1))).toArray 5 (0, 0)) := by
        rw [hst, ← numTo_step size n j hlt, hm, byt_back size n j hlt]
        simp [bytesV, List.map_set]
      have hk2 : New w (wr.setCell ⟨w.heap.size, size - 1 - j, none⟩ (.int .u8 ((m : Int) % 256))) := Keeps.setCell hk (by right; exact Nat.le_refl _) _
      clear hm hst hb hk hcell
      go_wp2
      go_roundw
      case rel => exact ⟨j + 1, by omega, congrArg (Value.int .u64) ((IntWalk.u64_in _ ⟨by omega, by have := HU.out.lt; omega⟩).trans (by rw [← div_step, ← HM.out]; omega)), by go_num, hst2, hk2⟩
      case measure => simp [intOf]; omega
    · obtain rfl : j = size := by omega
      have hown : wr.ownsRow 0 5 1 (.slice (some ⟨w.heap.size, 0, none⟩) j j) (numTo j n j).length (bytesV (numTo j n j)) := by
        refine ⟨by simp [bytesV], .inr ⟨_, j, _, by rw [numTo_length], Nat.zero_le _, hb, by rw [numTo_length]; exact Nat.le_refl _, by unfold maxLen; omega, by simp [bytesV, numTo_length], ?_⟩⟩
        rw [List.take_of_length_le (by simp [bytesV])]
      have hconv := conv_own (P := Try.prog) 114 9 5 Try.underlying114 Try.underlying5 Try.underlying9 hown
      rw [numTo_all] at hconv
      clear hown hb
      go_wp2
      go_ret
      exact ⟨rfl, hk⟩

/-- block b is the document's Writer of the bytes l -/
def Wr2 (w : World) (b : Nat) (l : List UInt8) : Prop := w.heap[b]? = some (.cells #[.string ⟨l.toArray⟩] 122 (0, 0))
theorem Wr2.lt {w : World} {b : Nat} {l : List UInt8} (h : Wr2 w b l) : b < w.heap.size := (Array.getElem?_eq_some_iff.1 h).1
theorem Wr2.c0 {w : World} {b : Nat} {l : List UInt8} (h : Wr2 w b l) : w.cell? ⟨b, 0, none⟩ = some (.string ⟨l.toArray⟩) := by rw [cell_blk h]; rfl
theorem Wr2.f0 {w : World} {b : Nat} {l : List UInt8} (h : Wr2 w b l) : w.frozen? ⟨b, 0, none⟩ = false := frozen_blk h 0

theorem newWriter2_any (w : World) : Calls Try.prog 75 #[] w fun e w' => e = .returned (.pointer (some ⟨w.heap.size, 0, none⟩)) ∧ Wr2 w' w.heap.size [] ∧ New w w' := by
  go_enter Try.func75, Try.ntmps75
  go_wp2
  go_ret
  exact ⟨rfl, heap_alloc_new w _, (Keeps.refl _ _).alloc _⟩

theorem bytes2_any (b : Nat) (l : List UInt8) (w : World) (h : Wr2 w b l) : Calls Try.prog 78 #[.pointer (some ⟨b, 0, none⟩)] w fun e w' => e = .returned (.string ⟨l.toArray⟩) ∧ w = w' := by
  have h0 := h.c0
  go_enter Try.func78, Try.ntmps78
  go_wp2
  go_ret
  exact ⟨rfl, rfl⟩

theorem num2_any (b : Nat) (l : List UInt8) (n : Nat) (w : World) (hl : l.length + 8 ≤ 140737488355328) (hn : U64 n) (h : Wr2 w b l) :
    Calls Try.prog 77 #[.pointer (some ⟨b, 0, none⟩), .int .u64 n] w fun e w' => e = .returned (.tuple #[]) ∧ Wr2 w' b (l ++ be 8 n) ∧ Keeps (fun k => k = b) w w' := by
  have h0 := h.c0
  have hsz : l.length + (be 8 n).length ≤ 9223372036854775807 := by rw [be_length]; omega
  go_enter Try.func77, Try.ntmps77
  go_wp2_with fail
  go_region_with (go_at_call 97; refine (number_any n 8 _ (by omega) (by omega) hn).mono ?_; rintro e w1 ⟨rfl, k1⟩; have h1 : Wr2 w1 b l := k1.kept h (fun h => h); have c1 := h1.c0; have f1 := h1.f0)
  all_goals (
    go_end0
    exact ⟨rfl, (heap_setCell_blk h1 0 _).trans (by simp [str_append]), New.set1 k1.undrew b 0 _⟩)

set_option maxHeartbeats 1000000 in
theorem text2_any (b : Nat) (l : List UInt8) (s : List UInt8) (w : World) (hl : l.length + 4 + s.length ≤ 140737488355328) (h : Wr2 w b l) :
    Calls Try.prog 76 #[.pointer (some ⟨b, 0, none⟩), .string ⟨s.toArray⟩] w fun e w' => e = .returned (.tuple #[]) ∧ Wr2 w' b (l ++ (be 4 s.length ++ s)) ∧ Keeps (fun k => k = b) w w' := by
  have h0 := h.c0
  have hsz : l.length + (be 4 s.length).length ≤ 9223372036854775807 := by rw [be_length]; omega
  have hsz2 : l.length + (be 4 s.length).length + s.length ≤ 9223372036854775807 := by rw [be_length]; omega
  have hu : U64 s.length := by show _ < _; omega
  have hwr : IntKind.u64.wrap (s.length : Int) = (s.length : Int) := IntWalk.u64_in _ ⟨by omega, by omega⟩
  go_enter Try.func76, Try.ntmps76
  go_wp2_with fail
  go_region_with (go_at_call 97; refine (number_any s.length 4 _ (by omega) (by omega) hu).mono ?_; rintro e w1 ⟨rfl, k1⟩; have h1 : Wr2 w1 b l := k1.kept h (fun h => h); have c1 := h1.c0; have f1 := h1.f0)
  all_goals (
    go_end0
    exact ⟨rfl, (heap_setCell_blk h1 0 _).trans (by simp [str_append]), New.set1 k1.undrew b 0 _⟩)
end Go.Proofs.Ytcldbipipehedaa
