/-
  VOTE: View, Parent, Height.
-/
import Derived.Test.YtefbdikoichaeaaVt2
import Derived.Deep.RegionWith
namespace Go.Proofs.Ytefbdikoichaeaa
open Go.RowKit

theorem view_any (b g cap : Nat) (l : List Bl) (i : Int) (w : World) (h : Tr w b g cap l) :
    Calls Try.prog 16 #[.pointer (some ⟨b, 0, none⟩), .int .i64 i] w fun e w' => e = .returned (.int .u64 (viewI l i)) ∧ w = w' := by
  rcases hi : inT l i with _ | _
  · rw [viewI_out hi]
    have H := at_out b g cap l i hi w h
    go_enter Try.func16, Try.ntmps16
    go_wp2_with fail
    refine H.mono ?_
    rintro e w' ⟨rfl, rfl⟩
    go_wp2_with fail
    go_ret
    exact ⟨rfl, rfl⟩
  · obtain ⟨n, rfl, hn⟩ := inT_iff hi
    rw [viewI_nat hn]
    have H := at_in b g cap l n hn w h
    have c := h.at n hn
    clear hi
    go_enter Try.func16, Try.ntmps16
    go_wp2_with fail
    refine H.mono ?_
    rintro e w' ⟨rfl, rfl⟩
    go_wp2_with fail
    go_ret
    exact ⟨rfl, rfl⟩

theorem par_any (b g cap : Nat) (l : List Bl) (i : Int) (w : World) (hw : WfT l) (h : Tr w b g cap l) :
    Calls Try.prog 19 #[.pointer (some ⟨b, 0, none⟩), .int .i64 i] w fun e w' => e = .returned (.int .i64 (parI l i)) ∧ New w w' := by
  rcases hi : inT l i with _ | _
  · rw [parI_out hi]
    have H := at_out b g cap l i hi w h
    go_enter Try.func19, Try.ntmps19
    go_wp2_with fail
    refine H.mono ?_
    rintro e w' ⟨rfl, rfl⟩
    go_wp2_with fail
    go_ret
    exact ⟨rfl, New.refl _⟩
  · obtain ⟨n, rfl, hn⟩ := inT_iff hi
    rw [parI_nat hn]
    have H := at_in b g cap l n hn w h
    have c := h.at n hn
    have H2 := parent_any (vw l n) (ht l n) (pr l n) (by have := hw.pr_lt hn; have := hw.len; omega) w
    clear hi
    go_enter Try.func19, Try.ntmps19
    go_wp2_with fail
    refine H.mono ?_
    rintro e w' ⟨rfl, rfl⟩
    go_wp2_with fail
    refine H2.mono ?_
    rintro e w1 ⟨rfl, k1⟩
    go_wp2_with fail
    go_ret
    exact ⟨rfl, k1⟩

theorem ht_any (b g cap : Nat) (l : List Bl) (i : Int) (w : World) (hw : WfT l) (h : Tr w b g cap l) :
    Calls Try.prog 18 #[.pointer (some ⟨b, 0, none⟩), .int .i64 i] w fun e w' => e = .returned (.int .i64 (htI l i)) ∧ New w w' := by
  rcases hi : inT l i with _ | _
  · rw [htI_out hi]
    have H := at_out b g cap l i hi w h
    go_enter Try.func18, Try.ntmps18
    go_wp2_with fail
    refine H.mono ?_
    rintro e w' ⟨rfl, rfl⟩
    go_wp2_with fail
    go_ret
    exact ⟨rfl, New.refl _⟩
  · obtain ⟨n, rfl, hn⟩ := inT_iff hi
    rw [htI_nat hn]
    have H := at_in b g cap l n hn w h
    have c := h.at n hn
    have H2 := height_any (vw l n) (ht l n) (pr l n) (by have := hw.ht_le n hn; have := hw.len; omega) w
    clear hi
    go_enter Try.func18, Try.ntmps18
    go_wp2_with fail
    refine H.mono ?_
    rintro e w' ⟨rfl, rfl⟩
    go_wp2_with fail
    refine H2.mono ?_
    rintro e w1 ⟨rfl, k1⟩
    go_wp2_with fail
    go_ret
    exact ⟨rfl, k1⟩
end Go.Proofs.Ytefbdikoichaeaa
