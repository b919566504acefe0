/-
  voussoirlaw02.CodecLong, CodecJoins: the walks.
-/
import Derived.Test.YtclldibadmnppaaItm
namespace Go.Proofs.Ytclldibadmnppaa
open Go.RowKit

theorem lays_take_le (l : List It) (k : Nat) : (lays (l.take k)).length ≤ (lays l).length := by
  have e : lays l = lays (l.take k) ++ lays (l.drop k) := by rw [← lays_append, List.take_append_drop]
  rw [e, List.length_append]; omega

set_option maxHeartbeats 2000000 in
theorem long_walk (a : Option Addr) (len cap : Nat) (l : List It) (w : World) (hlen : l.length = len) (h63 : len ≤ 9223372036854775807) (hl : (lays l).length ≤ 140737488355328) (h : Items w a l) :
    Calls Try.prog 11 #[.slice a len cap] w fun e w' => e = .returned (.bool true) ∧ New w w' := by
  go_enter Try.func11, Try.ntmps11
  go_wp2_with fail
  refine (awake_any w).mono ?_
  rintro e w1 ⟨rfl, k1⟩
  have hI := h.keep k1 (fun _ _ _ h => h)
  go_wp2_with fail
  go_loop [4, 5] (fun n i => ∃ (k : Nat), k ≤ len ∧ i = .int .i64 k ∧ n = .int .i64 (lays (l.take k)).length)
    (fun _ i => len - (intOf i).toNat)
  case atStart => exact ⟨0, Nat.zero_le _, rfl, rfl⟩
  case round =>
    obtain ⟨k, hk, rfl, rfl⟩ := hrel
    by_cases hlt : k < len
    · have hkl : k < l.length := by omega
      obtain ⟨b, o, ha, hb, hu, c0, c1, c2⟩ := hI k l[k] (List.getElem?_eq_getElem hkl)
      have hnext : (lays (l.take (k + 1))).length = (lays (l.take k)).length + (l[k]).lay.length := by rw [List.take_succ_eq_append_getElem hkl, lays_append, lays_one, List.length_append]
      have hle := lays_take_le l (k + 1)
      rw [hnext] at hle
      rw [It.lay_length] at hnext hle
      subst ha
      generalize l[k] = x at *
      obtain ⟨t, n, s⟩ := x
      cases t
      · simp only [Bool.false_eq_true, if_false] at hnext hle
        have HN := Lib.hid hnext
        clear hnext
        generalize (lays (l.take k)).length = m at *
        go_wp2_with fail
        go_round
        case rel => exact ⟨k + 1, by omega, by go_num, by rw [HN.out]; go_num⟩
        case measure => simp [intOf]; omega
      · simp only [if_true] at hnext hle
        have HN := Lib.hid hnext
        clear hnext
        generalize (lays (l.take k)).length = m at *
        go_wp2_with fail
        go_round
        case rel => exact ⟨k + 1, by omega, by go_num, by rw [HN.out]; go_num⟩
        case measure => simp [intOf]; omega
    · obtain rfl : k = len := by omega
      have e : l.take k = l := by rw [← hlen]; exact List.take_length
      rw [e]
      clear e
      go_wp2_with fail
      refine (laid_any a k cap l w1 hlen h63 hl hI).mono ?_
      rintro e w3 ⟨rfl, k3⟩
      go_wp2_with fail
      go_ret
      exact ⟨ret_bool (by simp), k1.then k3 (fun _ h => .inl h)⟩

set_option maxHeartbeats 2000000 in
theorem joins_walk (a : Option Addr) (len cap : Nat) (l : List It) (a' : Option Addr) (len' cap' : Nat) (l' : List It) (w : World) (hlen : l.length = len) (hlen' : l'.length = len')
    (hl : (lays l).length ≤ 2097152) (hl' : (lays l').length ≤ 2097152) (hc : len ≤ 1048576) (hc' : len' ≤ 1048576) (h : Items w a l) (h' : Items w a' l') :
    Calls Try.prog 10 #[.slice a len cap, .slice a' len' cap'] w fun e w' => e = .returned (.bool true) ∧ New w w' := by
  obtain ⟨i0, hi, hz0, hz1, hz2⟩ := info_parts infoI
  go_enter Try.func10, Try.ntmps10
  go_wp2_with fail
  refine (awake_any w).mono ?_
  rintro e w1 ⟨rfl, k1⟩
  have hI := h.keep k1 (fun _ _ _ h => h)
  go_wp2_with fail
  refine (laid_any a len cap l w1 hlen (by omega) (by omega) hI).mono ?_
  rintro e w2 ⟨rfl, k2⟩
  have hI2 := (h'.keep k1 (fun _ _ _ h => h)).keep k2 (fun _ _ _ h => h)
  go_wp2_with fail
  refine (laid_any a' len' cap' l' w2 hlen' (by omega) (by omega) hI2).mono ?_
  rintro e w3 ⟨rfl, k3⟩
  have hI1 := (hI.keep k2 (fun _ _ _ h => h)).keep k3 (fun _ _ _ h => h)
  have hI3 := hI2.keep k3 (fun _ _ _ h => h)
  have kk : New w w3 := (k1.then k2 (fun _ h => .inl h)).then k3 (fun _ h => .inl h)
  clear h h' hI hI2 k1 k2 k3
  go_wp2_with (at_builtin; (refine wpList_appg _ rfl (.const (.slice none 0 0)) (.tmp 15) 46 46 rfl w3.heap.size 50 i0 _ 3 32 Try.underlying46 hi hz0 hz1 hz2 rfl _ _ _ rfl (World.ownsRow_nil _ _ _ _) _ len _ rfl (hI1.src len cap hlen) ?c1 ?c2 (Nat.le_refl _) ?_))
  case c1 => unfold maxLen; omega
  case c2 => omega
  intro v1 w4 hown1 hg1 hv1
  have k4 : New w3 w4 := (Keeps.refl _ _).grown hg1 (by intro k hk; simp [Value.ownBlock] at hk)
  have hI4 := hI3.keep k4 (fun _ _ _ h => h)
  have hu : ∀ x ∈ l ++ l', U64 x.n := by
    intro x hx
    rcases List.mem_append.1 hx with hx | hx
    · obtain ⟨i, hi⟩ := List.getElem?_of_mem hx
      obtain ⟨_, _, _, _, hu, _⟩ := hI1 i x hi
      exact hu
    · obtain ⟨i, hi⟩ := List.getElem?_of_mem hx
      obtain ⟨_, _, _, _, hu, _⟩ := hI3 i x hi
      exact hu
  have hv1' : ∀ k, v1.ownBlock = some k → w3.heap.size ≤ k := by
    intro k hk
    exact (hown1.lt k hk).1
  clear hg1 hv1
  have hb4 := k4.size
  go_wp2_with (at_builtin; (refine wpList_appg _ rfl (.tmp 16) (.tmp 17) 46 46 rfl w3.heap.size 50 i0 _ 3 32 Try.underlying46 hi hz0 hz1 hz2 rfl _ _ _ rfl hown1 _ len' _ rfl (hI4.src len' cap' hlen') ?d1 ?d2 hb4 ?_))
  case d1 => unfold maxLen; omega
  case d2 => omega
  intro v2 w5 hown2 hg2 _
  have k5 : New w3 w5 := k4.grown hg2 (fun k hk => .inr (hv1' k hk))
  have hL : (l ++ l').length = len + len' := by rw [List.length_append, hlen, hlen']
  rw [← itemsV_append, ← hL] at hown2
  obtain ⟨a2, cap2, rfl, hI5, _⟩ := Items.of_own hown2 hu
  have HL := Lib.hid hL
  clear hL hown2 hg2 hown1 hI4 hI3 hI1 k4 hu hv1'
  obtain ⟨m, hm⟩ : ∃ m, m = (l ++ l').length := ⟨_, rfl⟩
  rw [← hm]
  have HM := Lib.hid hm
  clear hm
  go_wp2_with fail
  refine (laid_any a2 m cap2 (l ++ l') w5 HM.out.symm (by rw [HM.out, HL.out]; omega) (by rw [lays_append, List.length_append]; omega) hI5).mono ?_
  rintro e w6 ⟨rfl, k6⟩
  have hsz : (lays l).length + (lays l').length ≤ 9223372036854775807 := by omega
  go_wp2_with fail
  go_ret
  refine ⟨ret_bool ?_, (kk.then k5 (fun _ h => .inl h)).then k6 (fun _ h => .inl h)⟩
  rw [str_append, ← lays_append, ByteArray.toList_eq]
  simp
end Go.Proofs.Ytclldibadmnppaa
