/-
  WALKS: voussoirlaw02's own: pick, awake.
-/
import Derived.Test.YtclldibadmnppaaCod5
namespace Go.Proofs.Ytclldibadmnppaa
open Go.RowKit

/-- what pick picks -/
def pk (c : Int) (n : Nat) : Nat := ((if c < 0 then -(c + 1) else c) % (n : Int)).toNat
theorem pk_lt (c : Int) (n : Nat) (h : 0 < n) : pk c n < n := by
  unfold pk
  have h1 := Int.emod_nonneg (if c < 0 then -(c + 1) else c) (show (n : Int) ≠ 0 by omega)
  have h2 := Int.emod_lt_of_pos (if c < 0 then -(c + 1) else c) (show (0 : Int) < n by omega)
  omega
/-- c is an int -/
def I64 (c : Int) : Prop := -9223372036854775808 ≤ c ∧ c ≤ 9223372036854775807

theorem pick_any (c : Int) (n : Nat) (w : World) (hc : I64 c) (hn : 0 < n) (hn2 : n ≤ 4611686018427387904) :
    Calls Try.prog 45 #[.int .i64 c, .int .i64 n] w fun e w' => e = .returned (.int .i64 (pk c n)) ∧ w = w' := by
  obtain ⟨hlo, hhi⟩ := hc
  by_cases h : c < 0
  · go_enter Try.func45, Try.ntmps45
    go_wp2
    go_ret
    refine ⟨ret_int ?_, rfl⟩
    rw [← Int.neg_tmod, Int.tmod_eq_emod_of_nonneg (by omega)]
    unfold pk
    rw [if_pos h, Int.toNat_of_nonneg (Int.emod_nonneg _ (by omega))]
  · go_enter Try.func45, Try.ntmps45
    go_wp2
    go_ret
    refine ⟨ret_int ?_, rfl⟩
    unfold pk
    rw [if_neg (by omega), Int.toNat_of_nonneg (Int.emod_nonneg _ (by omega))]

/-- chapter 2's example -/
def exItems : List It := [⟨false, 258, []⟩, ⟨true, 0, [97, 98]⟩]
theorem ex_lays : lays exItems = [0, 0, 0, 0, 0, 0, 1, 2, 0, 0, 0, 2, 97, 98] := by decide +kernel
theorem ex_items (w : World) (T : TypeId) : Items (w.alloc (.cells #[.bool false, .int .u64 258, .string ⟨#[]⟩, .bool true, .int .u64 0, .string ⟨#[97, 98]⟩] T)) (some ⟨w.heap.size, 0, none⟩) exItems := by
  intro i x hx
  refine ⟨w.heap.size, 0, rfl, by simp, ?_⟩
  have hb := heap_alloc_new w (.cells #[.bool false, .int .u64 258, .string ⟨#[]⟩, .bool true, .int .u64 0, .string ⟨#[97, 98]⟩] T)
  match i, hx with
  | 0, hx => simp [exItems] at hx; subst hx; exact ⟨by unfold U64; decide, by rw [cell_blk hb]; rfl, by rw [cell_blk hb]; rfl, by rw [cell_blk hb]; rfl⟩
  | 1, hx => simp [exItems] at hx; subst hx; exact ⟨by unfold U64; decide, by rw [cell_blk hb]; rfl, by rw [cell_blk hb]; rfl, by rw [cell_blk hb]; rfl⟩

set_option maxHeartbeats 1000000 in
theorem awake_any (w : World) : Calls Try.prog 24 #[] w fun e w' => e = .returned (.bool true) ∧ New w w' := by
  go_enter Try.func24, Try.ntmps24
  go_wp2_with fail
  refine (laid_any _ 2 2 exItems _ rfl (by omega) (by rw [ex_lays]; decide) (ex_items w _)).mono ?_
  rw [ex_lays]
  rintro e w1 ⟨rfl, k1⟩
  go_wp2_with fail
  refine (newReader_any [0, 0, 0, 0, 0, 0, 1, 2, 0, 0, 0, 2, 97, 98] w1).mono ?_
  rintro e w2 ⟨rfl, r2, k2⟩
  go_wp2_with fail
  refine (rnum_any w1.heap.size _ false w2 r2).mono ?_
  rw [show numOut [0, 0, 0, 0, 0, 0, 1, 2, 0, 0, 0, 2, 97, 98] false = 258 by decide +kernel, show cutRest [0, 0, 0, 0, 0, 0, 1, 2, 0, 0, 0, 2, 97, 98] false 8 = [0, 0, 0, 2, 97, 98] by decide +kernel, show cutBad [0, 0, 0, 0, 0, 0, 1, 2, 0, 0, 0, 2, 97, 98] false 8 = false by decide +kernel]
  rintro e w3 ⟨rfl, r3, k3⟩
  go_wp2_with fail
  refine (rtext_any w1.heap.size _ false 2 w3 r3).mono ?_
  rw [show textOut [0, 0, 0, 2, 97, 98] false 2 = [97, 98] by decide +kernel, show textRest [0, 0, 0, 2, 97, 98] false 2 = [] by decide +kernel, show textBad [0, 0, 0, 2, 97, 98] false 2 = false by decide +kernel]
  rintro e w4 ⟨rfl, r4, k4⟩
  go_wp2_with fail
  refine (end_any w1.heap.size _ false w4 r4).mono ?_
  rintro e w' ⟨rfl, rfl⟩
  go_wp2_with fail
  refine (rnum_any w1.heap.size _ false w4 r4).mono ?_
  rw [show numOut [] false = 0 by decide +kernel, show cutRest [] false 8 = [] by decide +kernel, show cutBad [] false 8 = true by decide +kernel]
  rintro e w5 ⟨rfl, r5, k5⟩
  go_wp2_with fail
  refine (bad_any w1.heap.size _ true w5 r5).mono ?_
  rintro e w' ⟨rfl, rfl⟩
  go_wp2_with fail
  refine (end_any w1.heap.size _ true w5 r5).mono ?_
  rintro e w' ⟨rfl, rfl⟩
  go_wp2_with fail
  go_ret
  refine ⟨ret_bool (by decide +kernel), ?_⟩
  have hs := k1.size
  simp only [World.size_alloc] at hs
  have kk : New w w1 := ((Keeps.refl _ _).alloc _).then k1 (fun _ h => h.elim)
  exact ((((kk.then k2 (fun _ h => h.elim)).then k3 (fun _ h => .inr (by omega))).then k4 (fun _ h => .inr (by omega))).then k5 (fun _ h => .inr (by omega)))
end Go.Proofs.Ytclldibadmnppaa
