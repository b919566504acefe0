/-
  VOTE: a tree of the call's own; its methods, once more; voussoirlaw13's pick and awake.
-/
import Derived.Test.YtefbdikoichaeaaVt8
namespace Go.Proofs.Ytefbdikoichaeaa
open Go.RowKit

/-- block b is a tree, made since w0, of the blocks l -/
def TrN (w0 w : World) (b : Nat) (l : List Bl) : Prop := WfT l ∧ New w0 w ∧ w0.heap.size ≤ b ∧ ∃ g cap, Tr w b g cap l ∧ w0.heap.size ≤ g
theorem TrN.wf {w0 w : World} {b : Nat} {l : List Bl} (h : TrN w0 w b l) : WfT l := h.1
theorem TrN.new {w0 w : World} {b : Nat} {l : List Bl} (h : TrN w0 w b l) : New w0 w := h.2.1
theorem TrN.keep {w0 w w' : World} {b : Nat} {l : List Bl} (h : TrN w0 w b l) (k : New w w') : TrN w0 w' b l := by
  obtain ⟨h1, h2, h3, g, cap, h4, h5⟩ := h
  exact ⟨h1, h2.then k (fun _ h => h.elim), h3, g, cap, h4.keep k, h5⟩
theorem TrN.drew {w0 w : World} {b : Nat} {l : List Bl} (h : TrN w0 w b l) : TrN w0 w.drew b l := by
  obtain ⟨h1, h2, h3, g, cap, h4, h5⟩ := h
  exact ⟨h1, h2.drew, h3, g, cap, h4.drew, h5⟩
theorem TrN.drewN {w0 w : World} {b : Nat} {l : List Bl} (h : TrN w0 w b l) (n : Nat) : TrN w0 (w.drewN n) b l := by
  obtain ⟨h1, h2, h3, g, cap, h4, h5⟩ := h
  exact ⟨h1, h2.drewN n, h3, g, cap, h4.drewN n, h5⟩

theorem TrN.set {w0 w : World} {b a : Nat} {l : List Bl} {c : Array Value} {T : TypeId} {f : Nat × Nat} (h : TrN w0 w b l) (ha : w0.heap.size ≤ a) (hc : w.heap[a]? = some (.cells c T f)) (hT1 : T ≠ 64) (hT2 : T ≠ 61) (i : Nat) (x : Value) : TrN w0 (w.setCell ⟨a, i, none⟩ x) b l := by
  obtain ⟨h1, h2, h3, g, cap, h4, h5⟩ := h
  refine ⟨h1, h2.set ha i x, h3, g, cap, h4.keepS (S := fun k => k = a) (Keeps.setCell (S := fun k => k = a) (p := ⟨a, i, none⟩) (Keeps.refl _ _) (.inl rfl) x) ?_ ?_, h5⟩
  · rintro rfl
    have := h4.blk.symm.trans hc
    simp at this
    exact hT1 this.2.1.symm
  · rintro rfl
    rcases h4.own.2 with ⟨e, _⟩ | ⟨g', cap', cur, e, _, hh, _⟩
    · cases e
    · cases e
      have := hh.symm.trans hc
      simp at this
      exact hT2 this.2.1.symm
theorem newT (w0 w : World) (n : New w0 w) :
    Calls Try.prog 12 #[] w fun e w' => e = .returned (.pointer (some ⟨w.heap.size + 1, 0, none⟩)) ∧ TrN w0 w' (w.heap.size + 1) [⟨0, 0, 0⟩] :=
  (new_any w).mono fun e w' ⟨he, ht, k⟩ => ⟨he, wfT_one, n.then k (fun _ h => h.elim), by have := n.size; omega, _, _, ht, n.size⟩
theorem lenT {w0 w : World} {b : Nat} {l : List Bl} (h : TrN w0 w b l) :
    Calls Try.prog 14 #[.pointer (some ⟨b, 0, none⟩)] w fun e w' => e = .returned (.int .i64 l.length) ∧ w = w' := by
  obtain ⟨h1, h2, h3, g, cap, h4, h5⟩ := h
  exact len_any b g cap l w h4
theorem viewT {w0 w : World} {b : Nat} {l : List Bl} (h : TrN w0 w b l) (i : Int) :
    Calls Try.prog 16 #[.pointer (some ⟨b, 0, none⟩), .int .i64 i] w fun e w' => e = .returned (.int .u64 (viewI l i)) ∧ w = w' := by
  obtain ⟨h1, h2, h3, g, cap, h4, h5⟩ := h
  exact view_any b g cap l i w h4
theorem parT {w0 w : World} {b : Nat} {l : List Bl} (h : TrN w0 w b l) (i : Int) :
    Calls Try.prog 19 #[.pointer (some ⟨b, 0, none⟩), .int .i64 i] w fun e w' => e = .returned (.int .i64 (parI l i)) ∧ New w w' := by
  obtain ⟨h1, h2, h3, g, cap, h4, h5⟩ := h
  exact par_any b g cap l i w h1 h4
theorem htT {w0 w : World} {b : Nat} {l : List Bl} (h : TrN w0 w b l) (i : Int) :
    Calls Try.prog 18 #[.pointer (some ⟨b, 0, none⟩), .int .i64 i] w fun e w' => e = .returned (.int .i64 (htI l i)) ∧ New w w' := by
  obtain ⟨h1, h2, h3, g, cap, h4, h5⟩ := h
  exact ht_any b g cap l i w h1 h4
theorem extT {w0 w : World} {b : Nat} {l : List Bl} (h : TrN w0 w b l) (i j : Int) :
    Calls Try.prog 17 #[.pointer (some ⟨b, 0, none⟩), .int .i64 i, .int .i64 j] w fun e w' => e = .returned (.bool (extI l i j)) ∧ New w w' := by
  obtain ⟨h1, h2, h3, g, cap, h4, h5⟩ := h
  exact ext_int b g cap l i j w h1 h4
theorem mayT {w0 w : World} {b : Nat} {l : List Bl} (h : TrN w0 w b l) (voted : Nat) (lock i : Int) :
    Calls Try.prog 25 #[.pointer (some ⟨b, 0, none⟩), .agg #[.int .u64 voted, .int .i64 lock], .int .i64 i] w fun e w' => e = .returned (.bool (mayI l voted lock i)) ∧ New w w' := by
  obtain ⟨h1, h2, h3, g, cap, h4, h5⟩ := h
  exact may_any b g cap l voted lock i w h1 h4
theorem aftT {w0 w : World} {b : Nat} {l : List Bl} (h : TrN w0 w b l) (voted : Nat) (lock i : Int) :
    Calls Try.prog 27 #[.pointer (some ⟨b, 0, none⟩), .agg #[.int .u64 voted, .int .i64 lock], .int .i64 i] w fun e w' => e = .returned (.agg #[.int .u64 (aftV l voted i), .int .i64 (aftL l lock i)]) ∧ New w w' := by
  obtain ⟨h1, h2, h3, g, cap, h4, h5⟩ := h
  exact after_any b g cap l voted lock i w h1 h4
theorem comT {w0 w : World} {b : Nat} {l : List Bl} (h : TrN w0 w b l) (i : Int) :
    Calls Try.prog 20 #[.pointer (some ⟨b, 0, none⟩), .int .i64 i] w fun e w' => e = .returned (.int .i64 (comI l i)) ∧ New w w' := by
  obtain ⟨h1, h2, h3, g, cap, h4, h5⟩ := h
  exact com_any b g cap l i w h1 h4

/-- may it be added? -/
def addOk (l : List Bl) (p : Int) (v : Nat) : Bool := inT l p && decide (viewI l p < v) && decide (l.length < 256)
def addR (l : List Bl) (p : Int) (v : Nat) : Value := if addOk l p v then .tuple #[.int .i64 l.length, .int .i64 0] else .tuple #[.int .i64 (-1), .int .i64 130]
def addL (l : List Bl) (p : Int) (v : Nat) : List Bl := if addOk l p v then addB l p.toNat v else l
theorem addOk_nat {l : List Bl} {p v : Nat} (hp : p < l.length) (hv : vw l p < v) (hl : l.length < 256) : addOk l p v = true := by
  unfold addOk; rw [inT_nat hp, viewI_nat hp, decide_eq_true hv, decide_eq_true hl]; rfl
theorem addT {w0 w : World} {b : Nat} {l : List Bl} (h : TrN w0 w b l) (p v : Nat) (hp : p < l.length) (hv : vw l p < v) (hu : U64 v) (hl : l.length < 256) :
    Calls Try.prog 15 #[.pointer (some ⟨b, 0, none⟩), .int .i64 p, .int .u64 v] w fun e w' => e = .returned (.tuple #[.int .i64 l.length, .int .i64 0]) ∧ TrN w0 w' b (addB l p v) := by
  obtain ⟨h1, h2, h3, g, cap, h4, h5⟩ := h
  refine (add_ok b g cap l p v w h1 h4 hp hv hl).mono ?_
  rintro e w' ⟨he, g', cap', ht, k, hg⟩
  refine ⟨he, h1.add hp hv hu hl, h2.then k ?_, h3, g', cap', ht, ?_⟩
  · rintro j (rfl | rfl)
    · exact .inr h3
    · exact .inr h5
  · rcases hg with rfl | hg
    · exact h5
    · exact Nat.le_trans h2.size hg
theorem addAnyT {w0 w : World} {b : Nat} {l : List Bl} (h : TrN w0 w b l) (p : Int) (v : Nat) (hu : U64 v) :
    Calls Try.prog 15 #[.pointer (some ⟨b, 0, none⟩), .int .i64 p, .int .u64 v] w fun e w' => e = .returned (addR l p v) ∧ TrN w0 w' b (addL l p v) := by
  have h' := h
  obtain ⟨h1, h2, h3, g, cap, h4, h5⟩ := h
  rcases hp : inT l p with _ | _
  · have e : addOk l p v = false := by unfold addOk; rw [hp]; rfl
    have e1 : addR l p v = .tuple #[.int .i64 (-1), .int .i64 130] := by unfold addR; rw [e]; rfl
    have e2 : addL l p v = l := by unfold addL; rw [e]; rfl
    rw [e1, e2]
    exact (add_no b g cap l p v w h4 hp).mono fun e w' ⟨he, hw⟩ => ⟨he, hw ▸ h'⟩
  · obtain ⟨n, rfl, hn⟩ := inT_iff hp
    by_cases hv : vw l n < v ∧ l.length < 256
    · have e := addOk_nat hn hv.1 hv.2
      have e1 : addR l n v = .tuple #[.int .i64 l.length, .int .i64 0] := by unfold addR; rw [e]; rfl
      have e2 : addL l n v = addB l n v := by unfold addL; rw [e]; rfl
      rw [e1, e2]
      exact addT h' n v hn hv.1 hu hv.2
    · have hv2 : v ≤ vw l n ∨ 256 ≤ l.length := by omega
      have e : addOk l n v = false := by
        unfold addOk; rw [viewI_nat hn]
        rcases hv2 with e | e
        · rw [decide_eq_false (by omega : ¬ vw l n < v)]; simp
        · rw [decide_eq_false (by omega : ¬ l.length < 256)]; simp
      have e1 : addR l n v = .tuple #[.int .i64 (-1), .int .i64 130] := by unfold addR; rw [e]; rfl
      have e2 : addL l n v = l := by unfold addL; rw [e]; rfl
      rw [e1, e2]
      exact (add_no2 b g cap l n v w h4 hn hv2).mono fun e w' ⟨he, hw⟩ => ⟨he, hw ▸ h'⟩

/-- what pick picks -/
def pk (c : Int) (n : Nat) : Nat := ((if c < 0 then -(c + 1) else c) % (n : Int)).toNat
theorem pk_lt (c : Int) (n : Nat) (h : 0 < n) : pk c n < n := by
  unfold pk
  have h1 := Int.emod_nonneg (if c < 0 then -(c + 1) else c) (show (n : Int) ≠ 0 by omega)
  have h2 := Int.emod_lt_of_pos (if c < 0 then -(c + 1) else c) (show (0 : Int) < n by omega)
  omega
/-- c is an int -/
def I64 (c : Int) : Prop := -9223372036854775808 ≤ c ∧ c ≤ 9223372036854775807
theorem pick_any (c : Int) (n : Nat) (w : World) (hc : I64 c) (hn : 0 < n) (hn2 : n ≤ 4611686018427387904) :
    Calls Try.prog 13 #[.int .i64 c, .int .i64 n] w fun e w' => e = .returned (.int .i64 (pk c n)) ∧ w = w' := by
  obtain ⟨hlo, hhi⟩ := hc
  by_cases h : c < 0
  · go_enter Try.func13, Try.ntmps13
    go_wp2
    go_ret
    refine ⟨ret_int ?_, rfl⟩
    rw [← Int.neg_tmod, Int.tmod_eq_emod_of_nonneg (by omega)]
    unfold pk
    rw [if_pos h, Int.toNat_of_nonneg (Int.emod_nonneg _ (by omega))]
  · go_enter Try.func13, Try.ntmps13
    go_wp2
    go_ret
    refine ⟨ret_int ?_, rfl⟩
    unfold pk
    rw [if_neg (by omega), Int.toNat_of_nonneg (Int.emod_nonneg _ (by omega))]

/-- an act, raw -/
structure Ac where
  what : Int
  on : Int
  view : Int
  who : Int
/-- acts lie in memory from an address on -/
def ActsAt (w : World) (a : Option Addr) (l : List Ac) : Prop :=
  ∀ i x, l[i]? = some x → ∃ b o, a = some ⟨b, o, none⟩ ∧ b < w.heap.size ∧ (I64 x.what ∧ I64 x.on ∧ I64 x.view ∧ I64 x.who) ∧
    w.cell? ⟨b, o + i * 4, none⟩ = some (.int .i64 x.what) ∧ w.cell? ⟨b, o + i * 4 + 1, none⟩ = some (.int .i64 x.on) ∧ w.cell? ⟨b, o + i * 4 + 2, none⟩ = some (.int .i64 x.view) ∧ w.cell? ⟨b, o + i * 4 + 3, none⟩ = some (.int .i64 x.who)

/-- chapter 13's example: a chain -/
def lst : Nat → List Bl
  | 0 => [⟨0, 0, 0⟩]
  | k + 1 => addB (lst k) k (k + 1)
theorem lst_len (k : Nat) : (lst k).length = k + 1 := by
  induction k with
  | zero => rfl
  | succ k ih => rw [lst, addB_length, ih]
theorem lst_view (k : Nat) : vw (lst k) k = k := by
  cases k with
  | zero => rfl
  | succ k =>
    have e := vw_addB_new (lst k) k (k + 1)
    rw [lst_len] at e
    exact e

set_option maxHeartbeats 4000000 in
theorem awake_any (w0 w : World) (n : New w0 w) : Calls Try.prog 11 #[] w fun e w' => e = .returned (.bool true) ∧ New w0 w' := by
  go_enter Try.func11, Try.ntmps11
  go_wp2_with fail
  refine (newT w0 w n).mono ?_
  rintro e w1 ⟨rfl, hT⟩
  generalize w.heap.size + 1 = B at *
  go_wp2_with fail
  go_loopw [2] (fun i wr => ∃ k : Nat, k ≤ 4 ∧ i = .int .i64 k ∧ TrN w0 wr B (lst k)) (fun i _ => 4 - (intOf i).toNat)
  case atStart => exact ⟨0, by omega, rfl, hT⟩
  case round =>
    clear hT
    obtain ⟨k, hk, rfl, hT⟩ := hrel
    have hlen := lst_len k
    have hview := lst_view k
    by_cases hlt : k < 4
    · have HA := addT hT k (k + 1) (by omega) (by omega) (by unfold U64; omega) (by omega)
      rw [hlen] at HA
      have HN : Hid (addB (lst k) k (k + 1) = lst (k + 1)) := rfl
      have hwr : IntKind.u64.wrap ((k : Int) + 1) = ((k + 1 : Nat) : Int) := by rw [IntWalk.u64_in _ ⟨by omega, by omega⟩]; omega
      clear hlen hview
      go_wp2_with fail
      refine HA.mono ?_
      rintro e w2 ⟨rfl, hT2⟩
      go_wp2_with fail
      go_roundw
      case rel => exact ⟨k + 1, by omega, by go_num, HN.out ▸ hT2⟩
      case measure => simp [intOf]; omega
    · obtain rfl : k = 4 := by omega
      clear hlen hview
      have C4 := fun w (h : TrN w0 w B (lst 4)) => comT h 4
      rw [show comI (lst 4) 4 = 1 by decide +kernel] at C4
      have C3 := fun w (h : TrN w0 w B (lst 4)) => comT h 3
      rw [show comI (lst 4) 3 = 0 by decide +kernel] at C3
      have A1 := fun w (h : TrN w0 w B (lst 4)) => addAnyT h 1 4 (by unfold U64; omega)
      rw [show addR (lst 4) 1 4 = .tuple #[.int .i64 5, .int .i64 0] by unfold addR; rw [if_pos (by decide +kernel), lst_len]; rfl] at A1
      obtain ⟨l5, hl5⟩ : ∃ l5, l5 = addL (lst 4) 1 4 := ⟨_, rfl⟩
      rw [← hl5] at A1
      have A2 := fun w (h : TrN w0 w B l5) => addAnyT h 4 4 (by unfold U64; omega)
      rw [show addR l5 4 4 = .tuple #[.int .i64 (-1), .int .i64 130] by subst hl5; unfold addR; rw [if_neg (by decide +kernel)], show addL l5 4 4 = l5 by subst hl5; unfold addL; rw [if_neg (by decide +kernel)]] at A2
      have M1 := fun w (h : TrN w0 w B l5) => mayT h 3 2 5
      rw [show mayI l5 3 2 5 = false by subst hl5; decide +kernel] at M1
      have M2 := fun w (h : TrN w0 w B l5) => mayT h 3 1 5
      rw [show mayI l5 3 1 5 = true by subst hl5; decide +kernel] at M2
      have H4 := fun w (h : TrN w0 w B l5) => htT h 4
      rw [show htI l5 4 = 4 by subst hl5; decide +kernel] at H4
      have E1 := fun w (h : TrN w0 w B l5) => extT h 1 4
      rw [show extI l5 1 4 = true by subst hl5; decide +kernel] at E1
      have E2 := fun w (h : TrN w0 w B l5) => extT h 2 5
      rw [show extI l5 2 5 = false by subst hl5; decide +kernel] at E2
      clear hl5
      generalize lst 4 = l4 at *
      go_wp2_with fail
      refine (C4 _ hT).mono ?_
      rintro e w2 ⟨rfl, k2⟩
      have hT2 := hT.keep k2
      clear hT k2 C4
      go_wp2_with fail
      refine (C3 _ hT2).mono ?_
      rintro e w3 ⟨rfl, k3⟩
      have hT3 := hT2.keep k3
      clear hT2 k3 C3
      go_wp2_with fail
      refine (A1 _ hT3).mono ?_
      rintro e w4 ⟨rfl, hT4⟩
      clear hT3 A1
      go_wp2_with fail
      refine (A2 _ hT4).mono ?_
      rintro e w5 ⟨rfl, hT5⟩
      clear hT4 A2
      go_wp2_with fail
      refine (M1 _ hT5).mono ?_
      rintro e w6 ⟨rfl, k6⟩
      have hT6 := hT5.keep k6
      clear hT5 k6 M1
      go_wp2_with fail
      refine (M2 _ hT6).mono ?_
      rintro e w7 ⟨rfl, k7⟩
      have hT7 := hT6.keep k7
      clear hT6 k7 M2
      go_wp2_with fail
      refine (H4 _ hT7).mono ?_
      rintro e w8 ⟨rfl, k8⟩
      have hT8 := hT7.keep k8
      clear hT7 k8 H4
      go_wp2_with fail
      refine (E1 _ hT8).mono ?_
      rintro e w9 ⟨rfl, k9⟩
      have hT9 := hT8.keep k9
      clear hT8 k9 E1
      go_wp2_with fail
      refine (E2 _ hT9).mono ?_
      rintro e w10 ⟨rfl, k10⟩
      have hT10 := hT9.keep k10
      clear hT9 k10 E2
      go_wp2_with fail
      go_ret
      exact ⟨rfl, hT10.new⟩
end Go.Proofs.Ytefbdikoichaeaa
