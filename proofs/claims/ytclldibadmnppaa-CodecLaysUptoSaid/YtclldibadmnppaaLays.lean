/-
  voussoirlaw02.CodecLays, CodecJoins, CodecLong: the walks.
-/
import Derived.Test.YtclldibadmnppaaCod6
namespace Go.Proofs.Ytclldibadmnppaa
open Go.RowKit

set_option maxHeartbeats 2000000 in
theorem lays_walk (a : Option Addr) (len cap : Nat) (l : List It) (w : World) (hlen : l.length = len) (h63 : len ≤ 9223372036854775807) (hl : (lays l).length ≤ 140737488355328) (h : Items w a l) :
    Calls Try.prog 5 #[.slice a len cap] w fun e w' => e = .returned (.bool true) ∧ New w w' := by
  go_enter Try.func5, Try.ntmps5
  go_wp2_with fail
  refine (awake_any w).mono ?_
  rintro e w1 ⟨rfl, k1⟩
  go_wp2_with fail
  refine (newWriter2_any w1).mono ?_
  rintro e w2 ⟨rfl, r2, k2⟩
  have hb1 := k1.size
  have kk : New w w2 := k1.then k2 (fun _ h => .inl h)
  generalize w1.heap.size = B at *
  clear k1 k2
  go_wp2_with fail
  go_loopw [5] (fun i wr => ∃ (k : Nat), k ≤ len ∧ i = .int .i64 k ∧ Wr2 wr B (lays (l.take k)) ∧ New w wr)
    (fun i _ => len - (intOf i).toNat)
  case atStart => exact ⟨0, Nat.zero_le _, rfl, r2, kk⟩
  case round =>
    clear r2 kk
    obtain ⟨k, hk, rfl, hw, kw⟩ := hrel
    by_cases hlt : k < len
    · have hkl : k < l.length := by omega
      obtain ⟨b, o, ha, hb, hu, c0, c1, c2⟩ := (h.keep kw (fun _ _ _ h => h)) k l[k] (List.getElem?_eq_getElem hkl)
      have hbound : (lays (l.take k)).length + (l[k]).lay.length ≤ 140737488355328 := by
        have e : lays (l.take (k + 1)) = lays (l.take k) ++ (l[k]).lay := by rw [List.take_succ_eq_append_getElem hkl, lays_append, lays_one]
        have e2 : l = l.take (k + 1) ++ l.drop (k + 1) := (List.take_append_drop _ _).symm
        have e3 : (lays l).length = (lays (l.take (k + 1))).length + (lays (l.drop (k + 1))).length := by
          conv => lhs; rw [e2, lays_append]
          rw [List.length_append]
        rw [e, List.length_append] at e3
        omega
      have hnext : lays (l.take (k + 1)) = lays (l.take k) ++ (l[k]).lay := by rw [List.take_succ_eq_append_getElem hkl, lays_append, lays_one]
      rw [It.lay_length] at hbound
      have HN := Lib.hid hnext
      clear hnext
      subst ha
      generalize l[k] = x at *
      obtain ⟨t, n, s⟩ := x
      cases t
      · simp only [Bool.false_eq_true, if_false] at hbound
        have HN2 : Hid (lays (l.take (k + 1)) = lays (l.take k) ++ be 8 n) := HN
        go_wp2_with fail
        refine (num2_any B (lays (l.take k)) n wr hbound hu hw).mono ?_
        rintro e w3 ⟨rfl, hw3, k3⟩
        have kw3 : New w w3 := kw.then k3 (fun _ h => .inr (by omega))
        go_wp2_with fail
        go_roundw
        case rel => exact ⟨k + 1, by omega, by go_num, by rw [HN2.out]; exact hw3, kw3⟩
        case measure => simp [intOf]; omega
      · simp only [if_true] at hbound
        have HN2 : Hid (lays (l.take (k + 1)) = lays (l.take k) ++ (be 4 s.length ++ s)) := HN
        go_wp2_with fail
        refine (text2_any B (lays (l.take k)) s wr (by omega) hw).mono ?_
        rintro e w3 ⟨rfl, hw3, k3⟩
        have kw3 : New w w3 := kw.then k3 (fun _ h => .inr (by omega))
        go_wp2_with fail
        go_roundw
        case rel => exact ⟨k + 1, by omega, by go_num, by rw [HN2.out]; exact hw3, kw3⟩
        case measure => simp [intOf]; omega
    · obtain rfl : k = len := by omega
      have e : l.take k = l := by rw [← hlen]; exact List.take_length
      rw [e] at hw
      clear e
      go_wp2_with fail
      refine (laid_any a k cap l wr hlen h63 hl (h.keep kw (fun _ _ _ h => h))).mono ?_
      rintro e w3 ⟨rfl, k3⟩
      have hw3 : Wr2 w3 B (lays l) := k3.kept hw (fun h => h)
      go_wp2_with fail
      refine (bytes2_any B (lays l) w3 hw3).mono ?_
      rintro e w' ⟨rfl, rfl⟩
      go_wp2_with fail
      go_ret
      exact ⟨ret_bool (by simp), kw.then k3 (fun _ h => .inl h)⟩
end Go.Proofs.Ytclldibadmnppaa
