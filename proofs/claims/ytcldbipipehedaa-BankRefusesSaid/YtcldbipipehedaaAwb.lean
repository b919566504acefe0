/-
  voussoirlaw10.awake.
-/
import Derived.Test.YtcldbipipehedaaSm
import Derived.Test.YtcldbipipehedaaAwl
namespace Go.Proofs.Ytcldbipipehedaa
open Go.RowKit Go.ChangeMaps
def xA : List UInt8 := [97]
def xB : List UInt8 := [98]
def wB1 : BkS := mintS emptyB xA xGold 5
def wB2 : BkS := sendS wB1 xA xB xGold 2
theorem wb1 : mintE emptyB xA xGold 5 = 0 := by decide +kernel
theorem wb2 : sendE wB1 xA xB xGold 2 = 0 := by decide +kernel
theorem wb3 : burnE wB2 xB xGold 3 = 102 := by decide +kernel
theorem wb4 : burnS wB2 xB xGold 3 = wB2 := burn_no (by rw [wb3]; decide)
theorem wb5 : wB2.bal xGold xA = 3 := by decide +kernel
theorem wb6 : wB2.bal xGold xB = 2 := by decide +kernel
theorem wb7 : wB2.sup xGold = 5 := by decide +kernel
theorem wb8 : HoldL (wB2.bal xGold) [xA, xB] := by
  refine ⟨by decide, fun x => ?_⟩
  by_cases h1 : x = xA
  · subst h1; rw [wb5]; simp [maxLen, xA]
  · by_cases h2 : x = xB
    · subst h2; rw [wb6]; simp [maxLen, xB]
    · have h0 : wB2.bal xGold x = 0 := by
        unfold wB2 sendS
        rw [if_pos wb2]
        show sendB wB1 xA xB xGold 2 xGold x = 0
        unfold sendB upd2
        rw [if_neg (fun e => h2 e.2), if_neg (fun e => h1 e.2)]
        unfold wB1 mintS
        rw [if_pos wb1]
        show upd2 _ xGold xA _ xGold x = 0
        unfold upd2
        rw [if_neg (fun e => h1 e.2)]
        rfl
      rw [h0]
      simp [h1, h2]
set_option maxHeartbeats 4000000 in
set_option maxRecDepth 100000 in
theorem awakeB_any (w : World) : Calls Try.prog 48 #[] w fun e w' => e = .returned (.bool true) ∧ New w w' := by
  have M1 := fun w1 b n ma sa (h : Bk w1 b ma sa n emptyB) (hn : n ≤ 1000000) => mint_any b ma sa n emptyB xA xGold 5 (by show _ < _; decide) hn w1 h
  rw [wb1, show mintS emptyB xA xGold 5 = wB1 from rfl] at M1
  have S1 := fun w1 b n ma sa (h : Bk w1 b ma sa n wB1) (hn : n ≤ 1000000) => send_any b ma sa n wB1 xA xB xGold 2 (by show _ < _; decide) hn w1 h
  rw [wb2, show sendS wB1 xA xB xGold 2 = wB2 from rfl] at S1
  have U1 := fun w1 b n ma sa (h : Bk w1 b ma sa n wB2) (hn : n ≤ 1000000) => burn_any b ma sa n wB2 xB xGold 3 (by show _ < _; decide) hn w1 h
  rw [wb3, wb4] at U1
  have B1 := fun w1 b n (h : Sg w w1 b n wB2) => h.bal xGold xA (by decide) (by decide)
  rw [wb5] at B1
  have B2 := fun w1 b n (h : Sg w w1 b n wB2) => h.bal xGold xB (by decide) (by decide)
  rw [wb6] at B2
  have B3 := fun w1 b n (h : Sg w w1 b n wB2) => h.sup xGold (by decide)
  rw [wb7] at B3
  have B4 := fun w1 b n (h : Sg w w1 b n wB2) (hn : n ≤ 1000000) => h.hol hn xGold (by decide)
  have H8 := wb8
  have hxs : StrsAt ((w.alloc (.cells ([xA, xB].map fun x => Value.string ⟨x.toArray⟩).toArray 9))) w.heap.size [xA, xB] := strs_new w [xA, xB] 9
  clear hxs
  have NW := fun (W : World) => strs_new W [xA, xB] 9
  unfold xA xB xGold at *
  go_enter Try.func48, Try.ntmps48
  go_wp2_with fail
  refine (sgNew (New.refl w)).mono ?_
  rintro e w1 ⟨a, rfl, h1⟩
  go_wp2_with fail
  refine (h1.act (fun ma sa hb => M1 _ a 0 ma sa hb (by omega))).mono ?_
  rintro e w2 ⟨rfl, h2, -⟩
  go_wp2_with fail
  refine (h2.act (fun ma sa hb => S1 _ a _ ma sa hb (by omega))).mono ?_
  rintro e w3 ⟨rfl, h3, -⟩
  go_wp2_with fail
  refine (h3.act (fun ma sa hb => U1 _ a _ ma sa hb (by omega))).mono ?_
  rintro e w4 ⟨rfl, h4, -⟩
  clear h1 h2 h3 M1 S1 U1
  go_wp2_with fail
  refine (B1 _ a _ h4).mono ?_
  rintro e w5 ⟨rfl, rfl⟩
  go_wp2_with fail
  refine (B2 _ a _ h4).mono ?_
  rintro e w5 ⟨rfl, rfl⟩
  go_wp2_with fail
  refine (B3 _ a _ h4).mono ?_
  rintro e w5 ⟨rfl, rfl⟩
  go_wp2_with fail
  refine (B4 _ a _ h4 (by omega)).mono ?_
  rintro e w5 ⟨A, ca, l, rfl, hA, -, sA, y5⟩
  obtain rfl := hold_uniq hA H8
  have h5 := h4.keep y5
  have k6 := (New.refl w5).alloc (.cells #[.string ⟨#[97]⟩, .string ⟨#[98]⟩] 9)
  have s6 := sA.keep k6
  have h6 := h5.keep k6
  have sB : StrsO (w5.alloc (.cells #[.string ⟨#[97]⟩, .string ⟨#[98]⟩] 9)) (some ⟨w5.heap.size, 0, none⟩) [[97], [98]] := fun i x hx => ⟨_, rfl, by simp, NW w5 i x hx⟩
  have TS := texts_same A (some ⟨w5.heap.size, 0, none⟩) ca 2 [[97], [98]] (by decide) _ s6 sB
  clear h4 h5 sA y5 k6 sB s6 B1 B2 B3 B4 hA H8 NW
  go_wp2_with fail
  refine TS.mono ?_
  rintro e w7 ⟨rfl, y7⟩
  go_wp2_with fail
  go_ret
  exact ⟨rfl, h6.new.then y7 (fun _ h => h.elim)⟩
end Go.Proofs.Ytcldbipipehedaa
