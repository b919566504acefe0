/-
  voussoirlaw06.Texts: are two lists of strings the same?
-/
import Derived.Test.YtcldbipipehedaaHol
namespace Go.Proofs.Ytcldbipipehedaa
open Go.RowKit Go.ChangeMaps
set_option maxHeartbeats 2000000 in
set_option maxRecDepth 100000 in
theorem texts_same (A B : Option Addr) (ca cb : Nat) (l : List (List UInt8)) (hl : l.length ≤ 1000000000) (w : World) (ha : StrsO w A l) (hb : StrsO w B l) :
    Calls Try.prog 56 #[.slice A (l.length : Nat) ca, .slice B (l.length : Nat) cb] w fun e w' => e = .returned (.bool true) ∧ New w w' := by
  obtain ⟨len, hlen⟩ : ∃ n, n = l.length := ⟨_, rfl⟩
  rw [← hlen]
  have h1 : l.length ≤ len := by omega
  have h2 : len ≤ l.length := by omega
  clear hlen
  go_enter Try.func56, Try.ntmps56
  go_wp2_with fail
  go_loopw [5] (fun i wr => ∃ k : Nat, k ≤ len ∧ i = .int .i64 k ∧ New w wr ∧ StrsO wr A l ∧ StrsO wr B l)
    (fun i _ => len - (intOf i).toNat)
  case atStart => exact ⟨0, by omega, rfl, New.refl w, ha, hb⟩
  case round =>
    clear ha hb
    obtain ⟨k, hk, rfl, hn, ha, hb⟩ := hrel
    have hk0 : (0 : Int) ≤ (k : Int) := Int.natCast_nonneg _
    by_cases hlt : k < len
    · obtain ⟨ga, rfl, gla, ca0⟩ := ha k l[k] (List.getElem?_eq_getElem (by omega))
      obtain ⟨gb, rfl, glb, cb0⟩ := hb k l[k] (List.getElem?_eq_getElem (by omega))
      generalize l[k] = x at *
      have hk1 : (k : Int) < (len : Int) := by omega
      go_wp2_with fail
      go_region
      go_wp2_with fail
      go_roundw
      case rel => exact ⟨k + 1, by omega, by go_num, hn.drew, fun i y hy => ha i y hy, fun i y hy => hb i y hy⟩
      case measure => simp [intOf]; omega
    · go_wp2_with fail
      go_ret
      exact ⟨rfl, hn⟩
end Go.Proofs.Ytcldbipipehedaa
