/-
  WALKS: bank.between, check; amount.Add; the bank's New, Balance, Supply.
-/
import Derived.Test.YtcldbipipehedaaBk2
import Derived.Test.YtcldbipipehedaaPrt
import Derived.LoopTactic
namespace Go.Proofs.Ytcldbipipehedaa
open Go.RowKit

/-- a name may be -/
def okN (x : List UInt8) (m : Int) : Bool := decide (1 ≤ (x.length : Int)) && decide ((x.length : Int) ≤ m)
/-- what may not be with an amount and names -/
def chkE (v : Nat) (d : List UInt8) (xs : List (List UInt8)) : Int := if okN d 128 && xs.all (fun a => okN a 32) then (if v = 0 then 1 else 0) else 100
theorem between_any (x : List UInt8) (m : Int) (w : World) :
    Calls Try.prog 92 #[.string ⟨x.toArray⟩, .int .i64 m] w fun e w' => e = .returned (.bool (okN x m)) ∧ w = w' := by
  by_cases h : 1 ≤ x.length
  · have e1 : decide (1 ≤ (x.length : Int)) = true := by simp; omega
    have e2 : okN x m = decide ((x.length : Int) ≤ m) := by unfold okN; rw [e1]; rfl
    rw [e2]
    clear e2 h
    go_enter Try.func92, Try.ntmps92
    go_wp2
    go_ret
    exact ⟨rfl, rfl⟩
  · have e1 : decide (1 ≤ (x.length : Int)) = false := by simp; omega
    have e2 : okN x m = false := by unfold okN; rw [e1]; rfl
    rw [e2]
    clear e2 h
    go_enter Try.func92, Try.ntmps92
    go_wp2
    go_ret
    exact ⟨rfl, rfl⟩
/-- strings lie in block g from the beginning on -/
def StrsAt (w : World) (g : Nat) (l : List (List UInt8)) : Prop := ∀ i x, l[i]? = some x → w.cell? ⟨g, i, none⟩ = some (.string ⟨x.toArray⟩)
set_option maxHeartbeats 1000000 in
set_option maxRecDepth 100000 in
theorem check_any (v : Nat) (d : List UInt8) (xs : List (List UInt8)) (len g cap : Nat) (hlen : xs.length = len) (h63 : len ≤ 1000) (w : World) (hs : StrsAt w g xs) :
    Calls Try.prog 60 #[.int .u64 v, .string ⟨d.toArray⟩, .slice (some ⟨g, 0, none⟩) len cap] w fun e w' => e = .returned (.int .i64 (chkE v d xs)) ∧ w = w' := by
  have D1 := between_any d 128 w
  have HE : Hid (chkE v d xs = if okN d 128 && (xs.take len).all (fun a => okN a 32) then (if v = 0 then 1 else 0) else 100) := by
    rw [Hid, List.take_of_length_le (by omega)]; rfl
  have h0 : Hid (okN d 128 = (okN d 128 && (xs.take 0).all (fun a => okN a 32))) := by rw [Hid]; simp
  generalize chkE v d xs = out at *
  have hv0 : (0 : Int) ≤ (v : Int) := Int.natCast_nonneg _
  have hl1 : xs.length ≤ len := by omega
  have hl2 : len ≤ xs.length := by omega
  clear hlen
  go_enter Try.func60, Try.ntmps60
  go_wp2_with fail
  refine D1.mono ?_
  rintro e w' ⟨rfl, rfl⟩
  clear D1
  go_wp2_with fail
  go_loopw [7, 14] (fun ok i wr => ∃ (k : Nat) (b : Bool), k ≤ len ∧ i = .int .i64 k ∧ ok = .bool b ∧ Hid (b = (okN d 128 && (xs.take k).all (fun a => okN a 32))) ∧ wr = w)
    (fun _ i _ => len - (intOf i).toNat)
  case atStart => exact ⟨0, _, by omega, rfl, rfl, h0, rfl⟩
  case round =>
    clear h0
    obtain ⟨k, b, hk, rfl, rfl, hb, rfl⟩ := hrel
    have hk0 : (0 : Int) ≤ (k : Int) := Int.natCast_nonneg _
    by_cases hlt : k < len
    · have c0 := hs k xs[k] (List.getElem?_eq_getElem (by omega))
      have hk1 : (k : Int) < (len : Int) := by omega
      have HN : Hid ((okN d 128 && (xs.take (k + 1)).all (fun a => okN a 32)) = (b && okN xs[k] 32)) := by
        rw [Hid, hb.out, List.take_succ_eq_append_getElem (by omega), List.all_append, Bool.and_assoc]; simp
      clear HE hb
      generalize xs[k] = a at *
      have B1 := between_any a 32 wr
      rcases b with _ | _
      · go_wp2_with fail
        go_roundw
        case rel => exact ⟨k + 1, false, by omega, by go_num, rfl, by rw [Hid, HN.out]; rfl, by first | rfl | trivial⟩
        case measure => simp [intOf]; omega
      · go_wp2_with fail
        refine B1.mono ?_
        rintro e w' ⟨rfl, rfl⟩
        go_wp2_with fail
        go_roundw
        case rel => exact ⟨k + 1, okN a 32, by omega, by go_num, rfl, by rw [Hid, HN.out]; rfl, by first | rfl | trivial⟩
        case measure => simp [intOf]; omega
    · obtain rfl : k = len := by omega
      have HO : Hid (out = if b then (if v = 0 then 1 else 0) else 100) := by rw [Hid, HE.out, hb.out]
      clear HE hb hs
      rcases b with _ | _
      · go_wp2_with fail
        go_ret
        exact ⟨by rw [HO.out]; rfl, rfl⟩
      · by_cases hz : v = 0
        · have e1 : ((v : Int) == 0) = true := by simp [hz]
          have HO2 : Hid (out = 1) := by rw [Hid, HO.out, if_pos rfl, if_pos hz]
          clear HO hz
          go_wp2_with fail
          go_ret
          exact ⟨by rw [HO2.out]; rfl, rfl⟩
        · have e1 : ((v : Int) == 0) = false := by simp; omega
          have HO2 : Hid (out = 0) := by rw [Hid, HO.out, if_pos rfl, if_neg hz]
          clear HO hz
          go_wp2_with fail
          go_ret
          exact ⟨by rw [HO2.out]; rfl, rfl⟩
/-- amounts reckoned within 64 bits -/
def addM (x y : Nat) : Nat := (x + y) % 18446744073709551616
def subM (x y : Nat) : Nat := (x + 18446744073709551616 - y) % 18446744073709551616
theorem addM_u (x y : Nat) : U64 (addM x y) := by unfold addM; show _ < _; omega
theorem subM_u (x y : Nat) : U64 (subM x y) := by unfold subM; show _ < _; omega
theorem addM_wrap (x y : Nat) : IntKind.u64.wrap ((x : Int) + (y : Int)) = (addM x y : Int) := by
  unfold addM IntKind.wrap; simp [IntKind.signed, IntKind.bits]
theorem subM_wrap (x y : Nat) (h : y ≤ 18446744073709551615) : IntKind.u64.wrap ((x : Int) - (y : Int)) = (subM x y : Int) := by
  unfold subM IntKind.wrap; simp [IntKind.signed, IntKind.bits]; omega
def overA (x y : Nat) : Bool := decide (18446744073709551615 < x + y)
theorem add_any (x y : Nat) (hx : U64 x) (hy : U64 y) (w : World) :
    Calls Try.prog 61 #[.int .u64 x, .int .u64 y] w fun e w' => e = .returned (.tuple #[.int .u64 (if overA x y then 0 else x + y : Nat), .int .i64 (if overA x y then 31 else 0)]) ∧ w = w' := by
  have hx := hx.lt
  have hy := hy.lt
  have g1 : IntKind.u64.wrap (18446744073709551615 - (y : Int)) = 18446744073709551615 - (y : Int) := IntWalk.u64_in _ ⟨by omega, by omega⟩
  by_cases h : 18446744073709551615 < x + y
  · have e1 : decide (18446744073709551615 - (y : Int) < (x : Int)) = true := by simp; omega
    have e2 : overA x y = true := by unfold overA; simpa using h
    rw [e2]
    clear e2 h hx hy
    go_enter Try.func61, Try.ntmps61
    go_wp2
    go_ret2
    exact ⟨rfl, rfl⟩
  · have e1 : decide (18446744073709551615 - (y : Int) < (x : Int)) = false := by simp; omega
    have e2 : overA x y = false := by unfold overA; simpa using h
    have g2 : IntKind.u64.wrap ((x : Int) + (y : Int)) = ((x + y : Nat) : Int) := by rw [IntWalk.u64_in _ ⟨by omega, by omega⟩]; omega
    rw [e2]
    clear e2 h hx hy
    go_enter Try.func61, Try.ntmps61
    go_wp2
    go_ret2
    exact ⟨rfl, rfl⟩
end Go.Proofs.Ytcldbipipehedaa
