/-
  The bank's Holders: whoever has some of a money, in order, each once.
-/
import Derived.Test.YtcldbipipehedaaBk6
import Derived.Sort.OwnSorted
import Derived.Sort.KeysCollected
import Derived.Maps.RangeWalk
import Derived.Maps.Views
import Derived.LoopTactic
namespace Go.Proofs.Ytcldbipipehedaa
open Go.RowKit Go.ChangeMaps Go.Sort
open Go.Maps (Keyed)

/-- l is whoever has some, in order -/
def HoldL (f : List UInt8 → Nat) (l : List (List UInt8)) : Prop := l.Pairwise (fun x y => x < y) ∧ ∀ a, a ∈ l ↔ a.length ≤ maxLen ∧ f a ≠ 0
theorem hold_nodup {f : List UInt8 → Nat} {l : List (List UInt8)} (h : HoldL f l) : l.Nodup := h.1.imp fun {a b} h e => by subst e; exact List.lt_irrefl a h
theorem hold_uniq {f : List UInt8 → Nat} {l r : List (List UInt8)} (h : HoldL f l) (k : HoldL f r) : l = r := by
  refine List.Perm.eq_of_pairwise (le := fun a b => a < b) (fun a b _ _ h1 h2 => absurd h2 (List.lt_asymm h1)) h.1 k.1 ?_
  exact (List.perm_ext_iff_of_nodup (hold_nodup h) (hold_nodup k)).2 fun a => (h.2 a).trans (k.2 a).symm
/-- strings lie in memory from an address on -/
def StrsO (w : World) (A : Option Addr) (l : List (List UInt8)) : Prop := ∀ i x, l[i]? = some x → ∃ g, A = some ⟨g, 0, none⟩ ∧ g < w.heap.size ∧ w.cell? ⟨g, i, none⟩ = some (.string ⟨x.toArray⟩)
theorem StrsO.keep {w w' : World} {A : Option Addr} {l : List (List UInt8)} (h : StrsO w A l) (k : New w w') : StrsO w' A l := by
  intro i x hx
  obtain ⟨g, e, hg, hc⟩ := h i x hx
  exact ⟨g, e, Nat.lt_of_lt_of_le hg k.size, (k.cell hg (fun h => h)).trans hc⟩
theorem StrsO.kc {w w' : World} {A : Option Addr} {l : List (List UInt8)} (h : StrsO w A l) (k : ∀ g, A = some ⟨g, 0, none⟩ → w'.heap[g]? = w.heap[g]?) (hs : w.heap.size ≤ w'.heap.size) : StrsO w' A l := by
  intro i x hx
  obtain ⟨g, e, hg, hc⟩ := h i x hx
  exact ⟨g, e, Nat.lt_of_lt_of_le hg hs, (World.cell?_of_block (k g e)).trans hc⟩
/-- what was met so far -/
def CollP (f : List UInt8 → Nat) (d : List UInt8) (left : Lit → Bool) (ss : List (List UInt8)) : Prop :=
  ss.Nodup ∧ ∀ a, a ∈ ss ↔ ∃ kl, keyOf Try.prog 91 (plV d a) = some kl ∧ left kl = false ∧ f a ≠ 0
theorem collP_start {f : List UInt8 → Nat} {d : List UInt8} {D : DataW Unit} (h : ∀ a kl, keyOf Try.prog 91 (plV d a) = some kl → D.atKey kl zU = .lit (.int .u64 (f a))) : CollP f d (Maps.has D) [] := by
  refine ⟨List.nodup_nil, fun a => ?_⟩
  constructor
  · intro h; cases h
  rintro ⟨kl, hk, hl, hf⟩
  have h1 := h a kl hk
  rw [Maps.atKey_of_not_has hl] at h1
  have h2 : (0 : Int) = (f a : Int) := lit_inj h1
  omega
theorem key_same {x y : Lit} (h : x.sameKey y = true) : x = y := WideAt.sameKey_eq h
theorem plV_inj {d a d' a' : List UInt8} (h : plV d a = plV d' a') : d = d' ∧ a = a' := by
  unfold plV at h
  simp at h
  exact h
theorem collP_take {f : List UInt8 → Nat} {d : List UInt8} {left : Lit → Bool} {ss : List (List UInt8)} (h : CollP f d left ss) {a : List UInt8} {kl : Lit} (hk : keyOf Try.prog 91 (plV d a) = some kl) (hl : left kl = true) (hf : f a ≠ 0) :
    CollP f d (fun z => left z && !z.sameKey kl) (ss ++ [a]) := by
  obtain ⟨h1, h2⟩ := h
  refine ⟨List.nodup_append.2 ⟨h1, by simp, fun x hx y hy e => ?_⟩, fun b => ?_⟩
  · rw [List.mem_singleton] at hy
    subst hy; subst e
    obtain ⟨kl', hk', hl', -⟩ := (h2 x).1 hx
    rw [hk] at hk'
    obtain rfl := Option.some.inj hk'
    rw [hl] at hl'; cases hl'
  · rw [List.mem_append, List.mem_singleton, h2 b]
    constructor
    · rintro (⟨kl', hk', hl', hf'⟩ | rfl)
      · exact ⟨kl', hk', by simp [hl'], hf'⟩
      · exact ⟨kl, hk, by simp [WideAt.sameKey_self ((Keyed.of_law lawP).key hk)], hf⟩
    · rintro ⟨kl', hk', hl', hf'⟩
      rcases hq : left kl' with _ | _
      · exact .inl ⟨kl', hk', hq, hf'⟩
      · have e : kl'.sameKey kl = true := by simpa [hq] using hl'
        obtain rfl := key_same e
        exact .inr (plV_inj (lawP.inj hk' hk)).2
theorem collP_skip {f : List UInt8 → Nat} {d : List UInt8} {left : Lit → Bool} {ss : List (List UInt8)} (h : CollP f d left ss) {d' a' : List UInt8} {kl : Lit} (hk : keyOf Try.prog 91 (plV d' a') = some kl) (hn : d' = d → f a' = 0) :
    CollP f d (fun z => left z && !z.sameKey kl) ss := by
  obtain ⟨h1, h2⟩ := h
  refine ⟨h1, fun b => ?_⟩
  rw [h2 b]
  constructor
  · rintro ⟨kl', hk', hl', hf'⟩
    exact ⟨kl', hk', by simp [hl'], hf'⟩
  · rintro ⟨kl', hk', hl', hf'⟩
    rcases hq : left kl' with _ | _
    · exact ⟨kl', hk', hq, hf'⟩
    · have e : kl'.sameKey kl = true := by simpa [hq] using hl'
      obtain rfl := key_same e
      obtain ⟨e1, e2⟩ := plV_inj (lawP.inj hk' hk)
      subst e1; subst e2
      exact absurd (hn rfl) hf'
theorem collP_end {f : List UInt8 → Nat} {d : List UInt8} {left : Lit → Bool} {ss : List (List UInt8)} (h : CollP f d left ss) (hd : d.length ≤ maxLen) (hl : ∀ kl, left kl = false) : HoldL f (ss.mergeSort fun x y => decide (x ≤ y)) := by
  obtain ⟨h1, h2⟩ := h
  have hp := List.mergeSort_perm ss (fun x y => decide (x ≤ y))
  have tr : ∀ a b c : List UInt8, decide (a ≤ b) = true → decide (b ≤ c) = true → decide (a ≤ c) = true := fun a b c h1 h2 => by simp only [decide_eq_true_eq] at *; exact List.le_trans h1 h2
  have to : ∀ a b : List UInt8, (decide (a ≤ b) || decide (b ≤ a)) = true := fun a b => by simp only [Bool.or_eq_true, decide_eq_true_eq]; exact List.le_total a b
  have hs := List.pairwise_mergeSort (le := fun x y => decide (x ≤ y)) tr to ss
  have hnd := hp.nodup_iff.2 h1
  refine ⟨?_, fun a => ?_⟩
  · have h3 := List.pairwise_and_iff.2 ⟨hs, hnd⟩
    refine h3.imp fun {a b} h => ?_
    have hle : a ≤ b := by simpa using h.1
    exact Decidable.byContradiction fun hn => h.2 (List.le_antisymm hle (List.not_lt.1 hn))
  · rw [hp.mem_iff, h2 a]
    constructor
    · rintro ⟨kl, hk, -, hf⟩
      obtain ⟨d', a', e, -, q⟩ := keyPl_inv hk
      obtain ⟨-, e2⟩ := plV_inj e
      subst e2
      exact ⟨q, hf⟩
    · rintro ⟨q, hf⟩
      obtain ⟨kl, hk⟩ := keyPl d a hd q
      exact ⟨kl, hk, hl kl, hf⟩
theorem info_str : (Try.prog.info? 9).map (fun i => (i.zero, i.size, i.bytes)) = some (some (.string ⟨#[]⟩), 1, 16) := by kernel_rfl
theorem info_partsS : ∃ i, Try.prog.info? 9 = some i ∧ i.zero = some (.string ⟨#[]⟩) ∧ i.size = 1 ∧ i.bytes = 16 := by
  have h := info_str
  cases e : Try.prog.info? 9 with
  | none => rw [e] at h; cases h
  | some i => rw [e] at h; simp at h; exact ⟨i, rfl, h.1, h.2.1, h.2.2⟩
theorem plc_cells {w : World} {q : Nat} {d a : List UInt8} (h : w.heap[q]? = some (.cells #[.string ⟨d.toArray⟩, .string ⟨a.toArray⟩] 91 (0, 0))) : w.cell? ⟨q, 0, none⟩ = some (.string ⟨d.toArray⟩) ∧ w.cell? ⟨q, 1, none⟩ = some (.string ⟨a.toArray⟩) := by
  constructor <;> rw [cell_blk h] <;> rfl
set_option maxHeartbeats 4000000 in
set_option maxRecDepth 100000 in
theorem hol_any (b mb ms n : Nat) (s : BkS) (d : List UInt8) (hd : d.length ≤ maxLen) (hn : n ≤ 1000000) (w : World) (h : Bk w b mb ms n s) :
    Calls Try.prog 52 #[.pointer (some ⟨b, 0, none⟩), .string ⟨d.toArray⟩] w fun e w' => ∃ A cap l, e = .returned (.slice A (l.length : Nat) cap) ∧ HoldL (s.bal d) l ∧ l.length ≤ n ∧ StrsO w' A l ∧ New w w' := by
  have hc := h.cells.1
  obtain ⟨D, hown, hat0, hu⟩ := h.mp
  have hbl := hown.lt
  have hsz := hown.size_le
  have hst := collP_start (fun a kl hk => hat0 d a kl hk)
  obtain ⟨i0, hi, hz0, hz1, hz2⟩ := info_partsS
  clear h
  go_enter Try.func52, Try.ntmps52
  go_wp2_with (first
    | (at_range; refine wpList_range_own _ rfl _ 80 rfl 91 22 (Keyed.of_law lawP) Try.underlying80 _ mb n D rfl hown ?_; intro w0 hrg0 hg0 hs0)
    | fail)
  go_frame
  go_loopw [4] (fun v wr => ∃ (left : Lit → Bool) (cnt : Nat) (ss : List (List UInt8)), wr.ranges Try.prog 91 (plainElem Try.prog 22) mb w.heap.size n D left cnt ∧ ss.length + cnt ≤ Maps.size D ∧
      wr.ownsRow w.heap.size 9 1 v ss.length (ss.map encStr) ∧ CollP (s.bal d) d left ss ∧ New w wr)
    (fun _ wr => wr.rangeLeft mb w.heap.size)
  case atStart =>
    exact ⟨_, _, [], hrg0, by simp, World.ownsRow_nil _ _ _ _, hst, (New.refl w).grown hg0 (fun _ hj => by cases hj)⟩
  case round =>
    obtain ⟨left, cnt, ss, hrg, hcs, hrow, hC, hnx⟩ := hrel
    have hnz := hnx.size
    go_wp2_with (first
      | (at_next; refine wpList_next_ranges _ rfl _ rfl 91 (Keyed.of_law lawP) (plainElem Try.prog 22) (fun p : List UInt8 × List UInt8 => .agg #[.string ⟨p.1.toArray⟩, .string ⟨p.2.toArray⟩]) (Value.int .u64) (fun key kl hk => by obtain ⟨x, y, hx, _⟩ := keyPl_inv hk; exact ⟨(x, y), hx⟩) (fun v y hv => by obtain ⟨c, rfl, _⟩ := plainElem_int_inv Try.underlying22 hv; exact ⟨c, rfl⟩) mb w.heap.size n _ _ _ rfl hrg ?_ ?_)
      | fail)
    · intro hc0 hl0
      have hE := collP_end hC hd hl0
      rcases hrow.2 with ⟨rfl, hnil⟩ | ⟨g, cap, cur, rfl, hbase, hb, h1, h2, h3, h4⟩
      · have e0 : ss = [] := List.eq_nil_of_length_eq_zero hnil
        subst e0
        go_wp2_with fail
        refine (Try.slices_Sort_string_none _ _ _).mono ?_
        rintro e w' ⟨rfl, rfl⟩
        go_wp2_with fail
        go_ret
        exact ⟨none, 0, [], rfl, by simpa using hE, by simp, fun i x hx => by simp at hx, hnx⟩
      · have hH : Holds encStr wr g 0 ss.toArray := holds_of_block hb (by simpa using h4)
        have hgl : g < wr.heap.size := (Array.getElem?_eq_some_iff.1 hb).1
        have SC := Try.slices_Sort_string g 0 cap ss wr hH hgl (by omega)
        go_wp2_with fail
        refine SC.mono ?_
        rintro e w' ⟨rfl, nn, os, rfl⟩
        go_wp2_with fail
        go_ret
        have hlen : (ss.mergeSort fun x y => decide (x ≤ y)).length = ss.length := by simp
        have hS := ownsRow_sorted (n := nn) (os := os) (ss := ss) (ts := ss.mergeSort fun x y => decide (x ≤ y)) hlen hbase hb h1 h2 h3
        have hN := hnx.grown (grownBy_sorted (n := nn) (os := os) (g := g) (w := wr) (ss.mergeSort fun x y => decide (x ≤ y)).toArray) (fun k hk => .inr (by injection hk with hk; omega))
        have hgs : g < (grow (putRow encStr (Sort.ahead wr nn) g 0 (ss.mergeSort fun x y => decide (x ≤ y)).toArray) os).heap.size := (hS.lt g rfl).2
        refine ⟨some ⟨g, 0, none⟩, cap, ss.mergeSort fun x y => decide (x ≤ y), by rw [hlen]; rfl, hE, by omega, fun i x hx => ⟨g, rfl, hgs, ?_⟩, hN⟩
        have h5 := hS.cells (g := g) rfl i (encStr x) (by rw [List.getElem?_map, hx]; rfl)
        rw [Addr.add_lit] at h5
        simpa using h5
    · intro d' a' c kl y yp w2 cnt2 hkey hlk hv hat hrg2 hlt hg2 hs2 hen
      have hkey2 : keyOf Try.prog 91 (plV d' a') = some kl := hkey
      obtain ⟨c', ec, hyd, hwf⟩ := plainElem_int_inv Try.underlying22 hv
      cases ec
      have hyd1 : y = .lit (.int .u64 c) := congrArg Prod.fst hyd
      have hca : c = (s.bal d' a' : Nat) := by
        have e1 := hat0 d' a' kl hkey2
        rw [hat zU, hyd1] at e1
        exact lit_inj e1
      subst hca
      have hrow2 := hrow.kept hg2 (Or.inr (row_ne_iter hrow hrg).symm)
      have hnx2 : New w w2 := hnx.grown hg2 (fun k hk => .inr (by injection hk with hk; omega))
      have hmb := hg2.size
      clear hs2 hc hat hwf hyd hkey hv hyd1
      have nA : New w2 (w2.alloc (.cells #[.string ⟨d'.toArray⟩, .string ⟨a'.toArray⟩] 91)) := (New.refl w2).alloc _
      have qA := (plc_cells (heap_alloc_new w2 (.cells #[.string ⟨d'.toArray⟩, .string ⟨a'.toArray⟩] 91)))
      have hrgA := hrg2.alloc (.cells #[.string ⟨d'.toArray⟩, .string ⟨a'.toArray⟩] 91)
      have hrowA := hrow2.alloc (.cells #[.string ⟨d'.toArray⟩, .string ⟨a'.toArray⟩] 91)
      have hnxA := hnx2.then nA (fun _ h => h.elim)
      by_cases hdd : d' = d
      · subst hdd
        by_cases hz : s.bal d' a' = 0
        · have hC2 := collP_skip hC hkey2 (fun _ => hz)
          have e2 : decide ((0 : Int) < (s.bal d' a' : Nat)) = false := by simp; omega
          go_wp2_with fail
          go_roundw
          case rel => exact ⟨_, cnt2, ss, hrgA, by omega, hrowA, hC2, hnxA⟩
          case measure => rw [hrgA.left_eq, hrg.left_eq]; exact hlt
        · have hC2 := collP_take hC hkey2 hlk hz
          have e2 : decide ((0 : Int) < (s.bal d' a' : Nat)) = true := by simp; omega
          have hnzA := hnxA.size
          go_upto_region 5 with (fail)
          have hrgl := hrgA.left_eq
          clear nA hrg2 hrow2 hnx2 hen hmb hg2
          revert qA hrgA hrowA hnxA hnzA
          generalize w2.alloc _ = W
          generalize w2.heap.size = q
          intro qA hrgA hrowA hnxA hnzA
          go_wp2_with (at_builtin; go_loud (refine wpList_app _ rfl _ _ 71 71 rfl w.heap.size 9 i0 (.string ⟨#[]⟩) 1 16 Try.underlying71 hi hz0 hz1 hz2 rfl _ _ _ rfl (hrowA.alloc _) _ 1 _ rfl (Src.one W Try.underlying71 _ rfl 9) ?c1 ?c2 ?c3 ?_))
          case c1 => unfold maxLen; omega
          case c2 => omega
          case c3 => simp; omega
          intro v' w3 hown' hg3 hb3
          have hrg3 := (hrgA.alloc (.cells #[.string ⟨a'.toArray⟩] 9)).kept hg3 (row_ne_low hrowA hbl) (row_ne_iter hrowA hrgA)
          have hnx3 : New w w3 := (hnxA.alloc (.cells #[.string ⟨a'.toArray⟩] 9)).grown hg3 (fun k hk => .inr (hrowA.lt k hk).1)
          go_wp2_with fail
          go_roundw
          case rel => exact ⟨_, cnt2, ss ++ [a'], hrg3, by simp; omega, by simpa using hown', hC2, hnx3⟩
          case measure => rw [hrg3.left_eq, hrg.left_eq]; exact hlt
      · have hC2 := collP_skip hC hkey2 (fun e => absurd e hdd)
        have e1 : (d' == d) = false := by simpa using hdd
        go_wp2_with fail
        go_roundw
        case rel => exact ⟨_, cnt2, ss, hrgA, by omega, hrowA, hC2, hnxA⟩
        case measure => rw [hrgA.left_eq, hrg.left_eq]; exact hlt
end Go.Proofs.Ytcldbipipehedaa
