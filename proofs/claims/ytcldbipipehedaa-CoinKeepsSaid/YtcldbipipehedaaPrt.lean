/-
  WALKS: amount.Print.
-/
import Derived.Test.YtcldbipipehedaaProg
import Derived.Test.YtcldbipipehedaaMath
import Derived.Test.YtcldbipipehedaaMem
import Derived.Test.YtcldbipipehedaaCod1
import Derived.Test.YtcldbipipehedaaDec
import Derived.Handy
import Derived.LoopTactic
import Derived.IntWalk
import Derived.Deep.RegionHeld3
import Derived.Deep.DrawnRows
import Derived.Deep.RegionWith
namespace Go.Proofs.Ytcldbipipehedaa
open Go.RowKit

theorem New.refl (w : World) : New w w := Keeps.refl _ w
theorem Keeps.set {w0 w : World} {a : Nat} (h : New w0 w) (ha : w0.heap.size ≤ a) (i : Nat) (x : Value) : New w0 (w.setCell ⟨a, i, none⟩ x) :=
  Keeps.setCell (S := fun _ => False) (p := ⟨a, i, none⟩) h (.inr ha) x
theorem bytesV_cons (c : UInt8) (l : List UInt8) : bytesV (c :: l) = .int .u8 c.toNat :: bytesV l := rfl
/-- a row's end holds bytes -/
theorem row_set {c : List Value} {S : List UInt8} {i : Nat} (b : UInt8) (h : c.drop (i + 1) = bytesV S) (hi : i < c.length) : (c.set i (.int .u8 b.toNat)).drop i = bytesV (b :: S) := by
  rw [bytesV_cons, List.drop_eq_getElem_cons (by simpa using hi)]
  simp
  rw [List.drop_set_of_lt (by omega)]
  exact h
theorem row_str {P : Program} {w : World} {D i : Nat} {c : List Value} {S : List UInt8} {T : TypeId} (src dst e : TypeId) (hs : P.underlying src = some (.slice e)) (he : P.underlying e = some (.int .u8)) (hd : P.underlying dst = some .string)
    (hb : w.heap[D]? = some (.cells c.toArray T (0, 0))) (h : c.drop i = bytesV S) (len cap : Nat) (hl : S.length = len) :
    (convert src dst (.slice (some ⟨D, i, none⟩) len cap)).run P w = .ok (.string ⟨S.toArray⟩) w := by
  have hc : ∀ j, j < len → w.cell? ⟨D, i + j, none⟩ = some (.int .u8 ((S.map fun b => (b.toNat : Int)).getD j 0)) := by
    intro j hj
    have h2 : c[i + j]? = (bytesV S)[j]? := by rw [← h, List.getElem?_drop]
    have hj2 : j < S.length := by omega
    have e : w.cell? ⟨D, i + j, none⟩ = c[i + j]? := by simp [World.cell?, hb]
    rw [e, h2]
    simp [bytesV, hj2, List.getD]
  have h := run_convert_bytes_arg (P := P) w src e hs he D i len cap (S.map fun b => (b.toNat : Int)) (by simp [hl]) hc dst hd
  rw [h]
  congr 2
  simp only [strOfNums]
  congr 1
  apply Array.ext'
  simp [List.map_map, Function.comp_def]

set_option maxHeartbeats 2000000 in
set_option maxRecDepth 100000 in
theorem print_any (n : Nat) (hn : U64 n) (w : World) :
    Calls Try.prog 59 #[.int .u64 n] w fun e w' => e = .returned (.string ⟨(dec n).toArray⟩) ∧ New w w' := by
  have hlen := dec_len64 hn
  obtain ⟨out, hout⟩ : ∃ o, o = dec n := ⟨_, rfl⟩
  rw [← hout] at hlen ⊢
  have HO : Hid (out = dec n ++ ([] : List UInt8)) := by rw [Hid, List.append_nil]; exact hout
  clear hout
  have hn := hn.lt
  go_enter Try.func59, Try.ntmps59
  go_wp2_with fail
  have b0 := heap_alloc_new w (.cells #[.int .u8 0, .int .u8 0, .int .u8 0, .int .u8 0, .int .u8 0, .int .u8 0, .int .u8 0, .int .u8 0, .int .u8 0, .int .u8 0, .int .u8 0, .int .u8 0, .int .u8 0, .int .u8 0, .int .u8 0, .int .u8 0, .int .u8 0, .int .u8 0, .int .u8 0, .int .u8 0] 113)
  have n0 : New w (w.alloc (.cells #[.int .u8 0, .int .u8 0, .int .u8 0, .int .u8 0, .int .u8 0, .int .u8 0, .int .u8 0, .int .u8 0, .int .u8 0, .int .u8 0, .int .u8 0, .int .u8 0, .int .u8 0, .int .u8 0, .int .u8 0, .int .u8 0, .int .u8 0, .int .u8 0, .int .u8 0, .int .u8 0] 113)) := (New.refl w).alloc _
  have hD : w.heap.size ≤ w.heap.size := Nat.le_refl _
  revert hD
  generalize World.alloc w _ = W at *
  generalize hDD : w.heap.size = D at *
  intro hD
  have hD0 : w.heap.size ≤ D := by omega
  clear hDD hD
  go_loopw [0, 4, 5] (fun nv iv ok wr => ∃ (m i : Nat) (S : List UInt8) (c : List Value) (b : Bool), nv = .int .u64 m ∧ iv = .int .i64 i ∧ ok = .bool b ∧ m < 18446744073709551616 ∧ i ≤ 20 ∧ i + S.length ≤ 20 ∧ 20 ≤ i + S.length ∧ 20 ≤ c.length ∧ c.length ≤ 20 ∧ Hid (c.drop i = bytesV S) ∧
      Hid (out = if b then dec m ++ S else S) ∧ Hid (b = false → i ≤ 19) ∧ wr.heap[D]? = some (.cells c.toArray 113 (0, 0)) ∧ New w wr)
    (fun _ iv _ _ => (intOf iv).toNat)
  case atStart => exact ⟨n, 20, [], _, true, rfl, rfl, rfl, hn, by omega, by simp, by simp, by simp, by simp, Lib.hid (by rfl), HO.out, Lib.hid (fun h => by cases h), b0, n0⟩
  case round =>
    clear b0 n0 HO hn
    obtain ⟨m, i, S, c, b, rfl, rfl, rfl, hm, hi, hi1, hi2, hc1, hc2, HC, HO, HB, hb, nr⟩ := hrel
    have hi0 : (0 : Int) ≤ (i : Int) := Int.natCast_nonneg _
    have hi3 : (i : Int) ≤ 20 := by omega
    rcases b with _ | _
    · have hi19 := HB.out rfl
      have hine : ¬ 20 = i := by omega
      have HO2 : Hid (out = S) := by have := HO.out; rw [Hid]; simpa using this
      have hcv := fun cap => row_str (P := Try.prog) (len := 20 - i) (cap := cap) 114 9 5 Try.underlying114 Try.underlying5 Try.underlying9 hb HC.out (by omega)
      clear HO
      clear HB hi19
      go_wp2_with fail
      go_ret
      exact ⟨by rw [HO2.out]; rfl, nr⟩
    · have HO2 : Hid (out = dec m ++ S) := by have := HO.out; rw [Hid]; simpa using this
      have hpos : 1 ≤ i := by
        have := dec_pos m
        have h3 := congrArg List.length HO2.out
        rw [List.length_append] at h3
        omega
      obtain ⟨j, rfl⟩ : ∃ j, i = j + 1 := ⟨i - 1, by omega⟩
      have hm0 : (0 : Int) ≤ (m : Int) := Int.natCast_nonneg _
      have hj0 : (0 : Int) ≤ (j : Int) := Int.natCast_nonneg _
      have hj1 : (j : Int) < 20 := by omega
      have c0 : wr.cell? ⟨D, j, none⟩ = some (c[j]'(by omega)) := by rw [cell_blk hb]; simp
      have f0 : wr.frozen? ⟨D, j, none⟩ = false := frozen_blk hb j
      have hb2 := heap_setCell_blk hb j (.int .u8 (dig (m % 10)).toNat)
      rw [List.setIfInBounds_toArray] at hb2
      have n2 := nr.set hD0 j (.int .u8 (dig (m % 10)).toNat)
      have hc3 := row_set (dig (m % 10)) HC.out (by omega)
      rw [dig_toNat (by omega)] at hb2 n2 hc3
      have e48 : ((48 + m % 10 : Nat) : Int) = 48 + (m : Int) % 10 := by omega
      rw [e48] at hb2 n2 hc3
      have HC2 := Lib.hid hc3
      clear hc3
      by_cases hz : m < 10
      · have hd : decide (0 < (m : Int) / 10) = false := by simp; omega
        have HO3 : Hid (out = dig (m % 10) :: S) := by rw [Hid, HO2.out, dec_lt hz, Nat.mod_eq_of_lt hz]; rfl
        clear HO HO2 HC e48
        go_wp2_with fail
        go_roundw
        case rel => exact ⟨m / 10, j, dig (m % 10) :: S, _, false, by go_num, rfl, rfl, by omega, by omega, by simp; omega, by simp; omega, by simpa using hc1, by simpa using hc2, HC2, Lib.hid HO3.out, Lib.hid (fun _ => by omega), hb2, n2⟩
        case measure => simp [intOf]
      · have hd : decide (0 < (m : Int) / 10) = true := by simp; omega
        have HO3 : Hid (out = dec (m / 10) ++ dig (m % 10) :: S) := by rw [Hid, HO2.out, dec_ge hz, List.append_assoc]; rfl
        clear HO HO2 HC e48
        go_wp2_with fail
        go_roundw
        case rel => exact ⟨m / 10, j, dig (m % 10) :: S, _, true, by go_num, rfl, rfl, by omega, by omega, by simp; omega, by simp; omega, by simpa using hc1, by simpa using hc2, HC2, Lib.hid HO3.out, Lib.hid (fun h => by cases h), hb2, n2⟩
        case measure => simp [intOf]

theorem step3 (n : Nat) (h : n < 10) : IntKind.u64.wrap (48 + (n : Int)) = 48 + (n : Int) := IntWalk.u64_in _ ⟨by omega, by omega⟩
theorem step3b (n : Nat) (h : n < 10) : IntKind.u8.wrap (48 + (n : Int)) = 48 + (n : Int) := by
  unfold IntKind.wrap; simp [IntKind.signed, IntKind.bits]; omega
/-- one byte, laid -/
theorem one_str {P : Program} {w : World} {D : Nat} {b : Nat} {T : TypeId} (src dst e : TypeId) (hs : P.underlying src = some (.slice e)) (he : P.underlying e = some (.int .u8)) (hd : P.underlying dst = some .string)
    (hb : w.heap[D]? = some (.cells #[.int .u8 (48 + (b : Int))] T (0, 0))) (hlt : b < 10) :
    (convert src dst (.slice (some ⟨D, 0, none⟩) 1 1)).run P w = .ok (.string ⟨#[dig b]⟩) w := by
  have := row_str (P := P) (S := [dig b]) (c := [.int .u8 (48 + (b : Int))]) (i := 0) src dst e hs he hd (by simpa using hb) (by simp [bytesV, dig_toNat hlt]) 1 1 rfl
  simpa using this
set_option maxHeartbeats 2000000 in
set_option maxRecDepth 100000 in
theorem print3_any : ∀ (n : Nat) (w : World), U64 n →
    Calls Try.prog 88 #[.int .u64 n] w fun e w' => e = .returned (.string ⟨(dec n).toArray⟩) ∧ New w w' := by
  intro n
  induction n using Nat.strongRecOn with
  | _ n ih =>
    intro w hn
    by_cases h : n < 10
    · have hd : decide ((n : Int) < 10) = true := by simp; omega
      have HO := Lib.hid (dec_lt h)
      have g1 := step3 n h
      have g2 := step3b n h
      have b1 := heap_alloc_new w (.cells #[.int .u8 (48 + (n : Int))] 5)
      have hcv := one_str (P := Try.prog) 114 9 5 Try.underlying114 Try.underlying5 Try.underlying9 b1 h
      clear ih b1
      go_enter Try.func88, Try.ntmps88
      go_wp2_with fail
      go_ret
      exact ⟨by rw [HO.out]; rfl, (New.refl w).alloc _⟩
    · have hd : decide ((n : Int) < 10) = false := by simp; omega
      have HO := Lib.hid (dec_ge h)
      have hlt : n % 10 < 10 := by omega
      have e1 : ((n % 10 : Nat) : Int) = (n : Int) % 10 := by omega
      have e2 : ((n / 10 : Nat) : Int) = (n : Int) / 10 := by omega
      have g1 := step3 (n % 10) hlt
      have g2 := step3b (n % 10) hlt
      have IH : ∀ w, Calls Try.prog 88 #[.int .u64 ((n / 10 : Nat) : Int)] w fun e w' => e = .returned (.string ⟨(dec (n / 10)).toArray⟩) ∧ New w w' := fun w => ih (n / 10) (by omega) w (by have := hn.lt; show _ < _; omega)
      have CV : ∀ (wx : World) (D : Nat), wx.heap[D]? = some (.cells #[.int .u8 (48 + ((n % 10 : Nat) : Int))] 5 (0, 0)) → (convert 114 9 (.slice (some ⟨D, 0, none⟩) 1 1)).run Try.prog wx = .ok (.string ⟨#[dig (n % 10)]⟩) wx := fun wx D hb =>
        one_str (P := Try.prog) 114 9 5 Try.underlying114 Try.underlying5 Try.underlying9 hb hlt
      rw [e1] at g1 g2 CV
      rw [e2] at IH
      have hb64 := hn.lt
      have gq : IntKind.u64.wrap ((n : Int) / 10) = (n : Int) / 10 := IntWalk.u64_in _ ⟨by omega, by omega⟩
      have gt : (n : Int).tmod 10 = (n : Int) % 10 := Int.tmod_eq_emod_of_nonneg (by omega)
      clear hb64
      have n0 : New w w.drew := (New.refl w).drew
      have hn0 : (0 : Int) ≤ (n : Int) := Int.natCast_nonneg _
      have hlen : (dec (n / 10)).length ≤ 20 := dec_len64 (by have := hn.lt; show _ < _; omega)
      have hif : ¬ 9223372036854775807 < (dec (n / 10)).length + 1 := by omega
      clear ih e1 e2 hlt h hlen
      generalize dec (n / 10) = l at *
      generalize dig (n % 10) = c at *
      go_enter Try.func88, Try.ntmps88
      go_wp2_with fail
      refine wp_region_held_drew (S := (fun w' => New w w')) (by kernel_rfl) ?_ (fun hHeld => ?_)
      · exact n0
      refine wpAnyH_take (i := 0) (oi := ⟨some 10, _, _, _, _, _⟩) (v := ?_) rfl (by kernel_rfl) (by kernel_rfl) (by kernel_rfl) (fun _ _ _ h => h) (Or.inl ⟨by rfl, ?_⟩) (by assumption) ?_
      rotate_left
      · (intro wq hSw; (try dsimp only at hSw); go_simp; try with_reducible rfl)
      try simp only [Act.put, List.setIfInBounds_toArray, List.set_cons_zero, List.set_cons_succ]
      refine wpAnyH_take (i := 1) (oi := ⟨some 11, _, _, _, _, _⟩) (v := ?_) rfl (by kernel_rfl) (by kernel_rfl) (by kernel_rfl) (fun _ _ _ h => h) (Or.inl ⟨by rfl, ?_⟩) (by assumption) ?_
      rotate_left
      · (intro wq hSw; (try dsimp only at hSw); go_simp; try with_reducible rfl)
      try simp only [Act.put, List.setIfInBounds_toArray, List.set_cons_zero, List.set_cons_succ]
      refine wpAnyH_take (i := 3) (oi := ⟨some 13, _, _, _, _, _⟩) (v := ?_) rfl (by kernel_rfl) (by kernel_rfl) (by kernel_rfl) (fun _ _ _ h => h) (Or.inl ⟨by rfl, ?_⟩) (by assumption) ?_
      rotate_left
      · (intro wq hSw; (try dsimp only at hSw); go_simp; try with_reducible rfl)
      try simp only [Act.put, List.setIfInBounds_toArray, List.set_cons_zero, List.set_cons_succ]
      refine wpAnyH_take (i := 4) (oi := ⟨some 14, _, _, _, _, _⟩) (v := ?_) rfl (by kernel_rfl) (by kernel_rfl) (by kernel_rfl) (fun _ _ _ h => h) (Or.inl ⟨by rfl, ?_⟩) (by assumption) ?_
      rotate_left
      · (intro wq hSw; (try dsimp only at hSw); go_simp; try with_reducible rfl)
      try simp only [Act.put, List.setIfInBounds_toArray, List.set_cons_zero, List.set_cons_succ]
      refine wpAnyH_take (i := 5) (oi := ⟨some 15, _, _, _, _, _⟩) (v := ?_) rfl (by kernel_rfl) (by kernel_rfl) (by kernel_rfl) (fun _ _ _ h => h) (Or.inl ⟨by rfl, ?_⟩) (by assumption) ?_
      rotate_left
      · (intro wq hSw; (try dsimp only at hSw); go_simp; try with_reducible rfl)
      try simp only [Act.put, List.setIfInBounds_toArray, List.set_cons_zero, List.set_cons_succ]
      refine wpAnyH_take (i := 6) (oi := ⟨some 16, _, _, _, _, _⟩) (v := ?_) rfl (by kernel_rfl) (by kernel_rfl) (by kernel_rfl) (fun _ _ _ h => h) (Or.inl ⟨by rfl, ?_⟩) (by assumption) ?_
      rotate_left
      · (intro wq hSw; (try dsimp only at hSw); go_simp; try with_reducible rfl)
      try simp only [Act.put, List.setIfInBounds_toArray, List.set_cons_zero, List.set_cons_succ]
      refine wpAnyH_ready (rs := [2, 7]) (by kernel_rfl) (by simp) ?_
      refine AllReadyH.cons (o := ⟨some 12, _, _, _, _, _⟩) rfl (fun K hK => ?_) (AllReadyH.cons (o := ⟨some 17, _, _, _, _, _⟩) rfl (fun K hK => ?_) AllReadyH.nil)
      focus
        go_simp
        refine (IH _).mono ?_; rintro e z2 ⟨rfl, y2⟩
        refine hK.out _ _ (hHeld.then y2 (fun _ h => h.elim)) (fun hHeld => ?_)
        clear hK K
        try simp only [Act.put, List.setIfInBounds_toArray, List.set_cons_zero, List.set_cons_succ]
        refine wpAnyH_ready (rs := [7]) (by kernel_rfl) (by simp) ?_
        refine AllReadyH.cons (o := ⟨some 17, _, _, _, _, _⟩) rfl (fun K hK => ?_) AllReadyH.nil
        go_simp
        refine hK.out _ _ (hHeld.alloc _) (fun hHeld => ?_)
        clear hK K
        try simp only [Act.put, List.setIfInBounds_toArray, List.set_cons_zero, List.set_cons_succ]
        refine wpAnyH_ready (rs := [8]) (by kernel_rfl) (by simp) ?_
        refine AllReadyH.cons (o := ⟨some 18, _, _, _, _, _⟩) rfl (fun K hK => ?_) AllReadyH.nil
        go_simp; rw [CV _ _ ?_]; rotate_left; (first | exact heap_alloc_new _ _ | exact y2.kept (heap_alloc_new _ _) (fun h => h)); try go_simp
        refine hK.out _ _ hHeld (fun hHeld => ?_)
        clear hK K
        try simp only [Act.put, List.setIfInBounds_toArray, List.set_cons_zero, List.set_cons_succ]
        refine wpAnyH_take (i := 9) (oi := ⟨some 19, _, _, _, _, _⟩) (v := ?_) rfl (by kernel_rfl) (by kernel_rfl) (by kernel_rfl) (fun _ _ _ h => h) (Or.inl ⟨by rfl, ?_⟩) (by assumption) ?_
        rotate_left
        · (intro wq hSw; (try dsimp only at hSw); go_simp; try with_reducible rfl)
        try simp only [Act.put, List.setIfInBounds_toArray, List.set_cons_zero, List.set_cons_succ]
        refine wpAnyH_take (i := 10) (oi := ⟨some 2, _, _, _, _, _⟩) (v := ?_) rfl (by kernel_rfl) (by kernel_rfl) (by kernel_rfl) (fun _ _ _ h => h) (Or.inl ⟨by rfl, ?_⟩) (by assumption) ?_
        rotate_left
        · (intro wq hSw; (try dsimp only at hSw); go_simp; try with_reducible rfl)
        try simp only [Act.put, List.setIfInBounds_toArray, List.set_cons_zero, List.set_cons_succ]
        refine wpAnyH_done (by kernel_rfl) ?_ _
      rotate_left 1
      focus
        go_simp
        refine hK.out _ _ (hHeld.alloc _) (fun hHeld => ?_)
        clear hK K
        try simp only [Act.put, List.setIfInBounds_toArray, List.set_cons_zero, List.set_cons_succ]
        refine wpAnyH_ready (rs := [2, 8]) (by kernel_rfl) (by simp) ?_
        refine AllReadyH.cons (o := ⟨some 12, _, _, _, _, _⟩) rfl (fun K hK => ?_) (AllReadyH.cons (o := ⟨some 18, _, _, _, _, _⟩) rfl (fun K hK => ?_) AllReadyH.nil)
        focus
          go_simp
          refine (IH _).mono ?_; rintro e z2 ⟨rfl, y2⟩
          refine hK.out _ _ (hHeld.then y2 (fun _ h => h.elim)) (fun hHeld => ?_)
          clear hK K
          try simp only [Act.put, List.setIfInBounds_toArray, List.set_cons_zero, List.set_cons_succ]
          refine wpAnyH_ready (rs := [8]) (by kernel_rfl) (by simp) ?_
          refine AllReadyH.cons (o := ⟨some 18, _, _, _, _, _⟩) rfl (fun K hK => ?_) AllReadyH.nil
          go_simp; rw [CV _ _ ?_]; rotate_left; (first | exact heap_alloc_new _ _ | exact y2.kept (heap_alloc_new _ _) (fun h => h)); try go_simp
          refine hK.out _ _ hHeld (fun hHeld => ?_)
          clear hK K
          try simp only [Act.put, List.setIfInBounds_toArray, List.set_cons_zero, List.set_cons_succ]
          refine wpAnyH_take (i := 9) (oi := ⟨some 19, _, _, _, _, _⟩) (v := ?_) rfl (by kernel_rfl) (by kernel_rfl) (by kernel_rfl) (fun _ _ _ h => h) (Or.inl ⟨by rfl, ?_⟩) (by assumption) ?_
          rotate_left
          · (intro wq hSw; (try dsimp only at hSw); go_simp; try with_reducible rfl)
          try simp only [Act.put, List.setIfInBounds_toArray, List.set_cons_zero, List.set_cons_succ]
          refine wpAnyH_take (i := 10) (oi := ⟨some 2, _, _, _, _, _⟩) (v := ?_) rfl (by kernel_rfl) (by kernel_rfl) (by kernel_rfl) (fun _ _ _ h => h) (Or.inl ⟨by rfl, ?_⟩) (by assumption) ?_
          rotate_left
          · (intro wq hSw; (try dsimp only at hSw); go_simp; try with_reducible rfl)
          try simp only [Act.put, List.setIfInBounds_toArray, List.set_cons_zero, List.set_cons_succ]
          refine wpAnyH_done (by kernel_rfl) ?_ _
        rotate_left 1
        focus
          go_simp; rw [CV _ _ ?_]; rotate_left; (first | exact heap_alloc_new _ _ | exact y2.kept (heap_alloc_new _ _) (fun h => h)); try go_simp
          refine hK.out _ _ hHeld (fun hHeld => ?_)
          clear hK K
          try simp only [Act.put, List.setIfInBounds_toArray, List.set_cons_zero, List.set_cons_succ]
          refine wpAnyH_ready (rs := [2]) (by kernel_rfl) (by simp) ?_
          refine AllReadyH.cons (o := ⟨some 12, _, _, _, _, _⟩) rfl (fun K hK => ?_) AllReadyH.nil
          go_simp
          refine (IH _).mono ?_; rintro e z2 ⟨rfl, y2⟩
          refine hK.out _ _ (hHeld.then y2 (fun _ h => h.elim)) (fun hHeld => ?_)
          clear hK K
          try simp only [Act.put, List.setIfInBounds_toArray, List.set_cons_zero, List.set_cons_succ]
          refine wpAnyH_take (i := 9) (oi := ⟨some 19, _, _, _, _, _⟩) (v := ?_) rfl (by kernel_rfl) (by kernel_rfl) (by kernel_rfl) (fun _ _ _ h => h) (Or.inl ⟨by rfl, ?_⟩) (by assumption) ?_
          rotate_left
          · (intro wq hSw; (try dsimp only at hSw); go_simp; try with_reducible rfl)
          try simp only [Act.put, List.setIfInBounds_toArray, List.set_cons_zero, List.set_cons_succ]
          refine wpAnyH_take (i := 10) (oi := ⟨some 2, _, _, _, _, _⟩) (v := ?_) rfl (by kernel_rfl) (by kernel_rfl) (by kernel_rfl) (fun _ _ _ h => h) (Or.inl ⟨by rfl, ?_⟩) (by assumption) ?_
          rotate_left
          · (intro wq hSw; (try dsimp only at hSw); go_simp; try with_reducible rfl)
          try simp only [Act.put, List.setIfInBounds_toArray, List.set_cons_zero, List.set_cons_succ]
          refine wpAnyH_done (by kernel_rfl) ?_ _
        rotate_left 1
      rotate_left 2
      all_goals
        go_wp2_with fail
        go_ret
        exact ⟨by rw [HO.out, ← str_append]; rfl, hHeld⟩
end Go.Proofs.Ytcldbipipehedaa
