/-
  WALKS: voussoirlaw02.few: at most fifty items, texts cut to 1000 bytes.
-/
import Derived.Test.YtclldibadmnppaaItm
namespace Go.Proofs.Ytclldibadmnppaa
open Go.RowKit

def It.cut (x : It) : It := ⟨x.isT, x.n, x.s.take 1000⟩
def fewL (l : List It) : List It := (l.map It.cut).take 50
theorem fewL_length (l : List It) : (fewL l).length ≤ 50 := by simp [fewL]; omega

theorem item_new (wr : World) (t : Bool) (n : Nat) (s : List UInt8) (T : TypeId) (hn : U64 n) :
    Items ((wr.alloc (.cells #[.bool t, .int .u64 n, .string ⟨s.toArray⟩] T)).alloc (.cells #[.bool t, .int .u64 n, .string ⟨s.toArray⟩] T)) (some ⟨wr.heap.size + 1, 0, none⟩) [⟨t, n, s⟩] := by
  intro i x hx
  refine ⟨wr.heap.size + 1, 0, rfl, by simp, ?_⟩
  have hb := heap_alloc_new (wr.alloc (.cells #[.bool t, .int .u64 n, .string ⟨s.toArray⟩] T)) (.cells #[.bool t, .int .u64 n, .string ⟨s.toArray⟩] T)
  rw [World.size_alloc] at hb
  match i, hx with
  | 0, hx => simp at hx; subst hx; exact ⟨hn, by rw [cell_blk hb]; rfl, by rw [cell_blk hb]; rfl, by rw [cell_blk hb]; rfl⟩

set_option maxHeartbeats 2000000 in
set_option maxRecDepth 100000 in
theorem few_any (a : Option Addr) (len cap : Nat) (l : List It) (w : World) (hlen : l.length = len) (h63 : len ≤ 9223372036854775807) (h : Items w a l) :
    Calls Try.prog 40 #[.slice a len cap] w fun e w' => ∃ a2 cap2, e = .returned (.slice a2 (fewL l).length cap2) ∧ Items w' a2 (fewL l) ∧ (∀ b o, a2 = some ⟨b, o, none⟩ → w.heap.size ≤ b) ∧ New w w' := by
  obtain ⟨i0, hi, hz0, hz1, hz2⟩ := info_parts infoI
  go_enter Try.func40, Try.ntmps40
  go_wp2_with fail
  go_loopw [3, 4] (fun out i wr => ∃ (k : Nat), k ≤ len ∧ k ≤ 50 ∧ i = .int .i64 k ∧ wr.ownsRow w.heap.size 50 3 out k (itemsV ((l.map It.cut).take k)) ∧ New w wr)
    (fun _ i _ => len - (intOf i).toNat)
  case atStart => exact ⟨0, Nat.zero_le _, Nat.zero_le _, rfl, World.ownsRow_nil _ _ _ _, Keeps.refl _ _⟩
  case round =>
    obtain ⟨k, hk, hk50, rfl, hown, kw⟩ := hrel
    by_cases hlt : k < len ∧ k < 50
    · obtain ⟨hlt, hlt2⟩ := hlt
      have hkl : k < l.length := by omega
      obtain ⟨b, o, ha, hb, hu, c0, c1, c2⟩ := (h.keep kw (fun _ _ _ h => h)) k l[k] (List.getElem?_eq_getElem hkl)
      have hnext : itemsV ((l.map It.cut).take (k + 1)) = itemsV ((l.map It.cut).take k) ++ (l[k]).cut.cells := by
        rw [List.take_succ_eq_append_getElem (by simpa using hkl), itemsV_append]; simp [itemsV]
      have HN := Lib.hid hnext
      clear hnext
      subst ha
      generalize l[k] = x at *
      obtain ⟨t, n, s⟩ := x
      have hbw := kw.size
      have x1 := ext_take s s.length
      have x2 := ext_take s 1000
      by_cases h1000 : 1000 < s.length
      · go_wp2_with (at_builtin; (refine wpList_app _ rfl _ _ 46 46 rfl w.heap.size 50 i0 _ 3 32 Try.underlying46 hi hz0 hz1 hz2 rfl _ _ _ rfl ((hown.alloc _).alloc _) _ 1 (itemsV [⟨t, n, (s.take 1000)⟩]) rfl ((item_new wr t n (s.take 1000) 50 hu).src 1 1 rfl) ?p1 ?p2 ?p3 ?_))
        case p1 => unfold maxLen; omega
        case p2 => omega
        case p3 => first | omega | (simp; omega)
        intro v2 w2 hown2 hg2 _
        have hown3 : w2.ownsRow w.heap.size 50 3 v2 (k + 1) (itemsV ((l.map It.cut).take (k + 1))) := by
          rw [HN.out]
          have e : (⟨t, n, s⟩ : It).cut.cells = itemsV [⟨t, n, s.take 1000⟩] := by simp [It.cut, itemsV]
          rw [e]
          exact hown2
        have kw2 : New w w2 := ((kw.alloc _).alloc _).grown hg2 (fun g hg => .inr (hown.lt g hg).1)
        clear hown2 hg2 hown
        go_wp2_with fail
        go_roundw
        case rel => exact ⟨k + 1, by omega, by omega, by go_num, hown3, kw2⟩
        case measure => simp [intOf]; omega
      · go_wp2_with (at_builtin; (refine wpList_app _ rfl _ _ 46 46 rfl w.heap.size 50 i0 _ 3 32 Try.underlying46 hi hz0 hz1 hz2 rfl _ _ _ rfl ((hown.alloc _).alloc _) _ 1 (itemsV [⟨t, n, s⟩]) rfl ((item_new wr t n s 50 hu).src 1 1 rfl) ?q1 ?q2 ?q3 ?_))
        case q1 => unfold maxLen; omega
        case q2 => omega
        case q3 => first | omega | (simp; omega)
        intro v2 w2 hown2 hg2 _
        have hown3 : w2.ownsRow w.heap.size 50 3 v2 (k + 1) (itemsV ((l.map It.cut).take (k + 1))) := by
          rw [HN.out]
          have e : (⟨t, n, s⟩ : It).cut.cells = itemsV [⟨t, n, s⟩] := by simp [It.cut, itemsV, List.take_of_length_le (show s.length ≤ 1000 by omega)]
          rw [e]
          exact hown2
        have kw2 : New w w2 := ((kw.alloc _).alloc _).grown hg2 (fun g hg => .inr (hown.lt g hg).1)
        clear hown2 hg2 hown
        go_wp2_with fail
        go_roundw
        case rel => exact ⟨k + 1, by omega, by omega, by go_num, hown3, kw2⟩
        case measure => simp [intOf]; omega
    · have e : itemsV ((l.map It.cut).take k) = itemsV (fewL l) ∧ (fewL l).length = k := by
        by_cases hkl : k < len
        · obtain rfl : k = 50 := by omega
          exact ⟨rfl, by simp [fewL]; omega⟩
        · obtain rfl : k = len := by omega
          have e : (l.map It.cut).take k = (l.map It.cut).take 50 := by rw [List.take_of_length_le (by simp; omega), List.take_of_length_le (by simp; omega)]
          exact ⟨by rw [e]; rfl, by simp [fewL]; omega⟩
      have hu : ∀ x ∈ fewL l, U64 x.n := by
        intro x hx
        obtain ⟨y, hy, rfl⟩ := List.mem_map.1 (List.mem_of_mem_take hx)
        obtain ⟨i, hi⟩ := List.getElem?_of_mem hy
        obtain ⟨_, _, _, _, hu, _⟩ := h i y hi
        exact hu
      have hbase := fun g hg => (hown.lt g hg).1
      rw [e.1, ← e.2] at hown
      obtain ⟨a2, cap2, rfl, hI, hown'⟩ := Items.of_own hown hu
      obtain ⟨m, hm⟩ : ∃ m, m = (fewL l).length := ⟨_, rfl⟩
      rw [← hm] at hown hbase ⊢
      have E := Lib.hid e
      have HM := Lib.hid hm
      have HI := hI
      clear e hm hown
      have hout : ∀ b o, a2 = some ⟨b, o, none⟩ → w.heap.size ≤ b := fun b o hb => hbase b (by subst hb; rfl)
      clear hbase hown'
      by_cases hkl : k < len
      · obtain rfl : k = 50 := by omega
        go_wp2_with fail
        go_ret
        exact ⟨a2, cap2, by rw [← HM.out]; rfl, HI, hout, kw⟩
      · obtain rfl : k = len := by omega
        go_wp2_with fail
        go_ret
        exact ⟨a2, cap2, by rw [← HM.out]; rfl, HI, hout, kw⟩
end Go.Proofs.Ytclldibadmnppaa
