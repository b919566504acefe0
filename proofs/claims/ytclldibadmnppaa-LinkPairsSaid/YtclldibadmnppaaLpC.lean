/-
  WALKS: voussoirlaw17.pick; Play.stood.
-/
import Derived.Test.YtclldibadmnppaaLpB
import Derived.Test.YtclldibadmnppaaLnk1
import Derived.Test.YtclldibadmnppaaCod6
import Derived.LoopTactic
import Derived.BigQuiet
import Derived.Deep.DrawnRows
import Derived.Deep.CutBlock
import Derived.Deep.DeepCutAuto
import Derived.Deep.RegionHeld3
import Derived.Deep.RegionWith
namespace Go.Proofs.Ytclldibadmnppaa
open Go.RowKit
theorem pick17p (c : Int) (n : Nat) (w : World) (hc : I64 c) (hn : 0 < n) (hn2 : n ≤ 4611686018427387904) :
    Calls Try.prog 54 #[.int .i64 c, .int .i64 n] w fun e w' => e = .returned (.int .i64 (pk c n)) ∧ w = w' := by
  obtain ⟨hlo, hhi⟩ := hc
  by_cases h : c < 0
  · go_enter Try.func54, Try.ntmps54
    go_wp2
    go_ret
    refine ⟨ret_int ?_, rfl⟩
    rw [← Int.neg_tmod, Int.tmod_eq_emod_of_nonneg (by omega)]
    unfold pk
    rw [if_pos h, Int.toNat_of_nonneg (Int.emod_nonneg _ (by omega))]
  · go_enter Try.func54, Try.ntmps54
    go_wp2
    go_ret
    refine ⟨ret_int ?_, rfl⟩
    unfold pk
    rw [if_neg (by omega), Int.toNat_of_nonneg (Int.emod_nonneg _ (by omega))]
theorem eqLk (a b : Ln) (w : World) : (binOp .eql 36 (.agg #[.int .i64 (a.st : Nat), .int .u64 (a.cl : Nat), .int .u64 (a.pe : Nat), .int .u64 (a.pc : Nat)]) (.agg #[.int .i64 (b.st : Nat), .int .u64 (b.cl : Nat), .int .u64 (b.pe : Nat), .int .u64 (b.pc : Nat)])).run Try.prog w = .ok (.bool (eqLn a b)) w := by
  have e : eqLn a b = ((a.st : Int) == (b.st : Int) && (a.cl : Int) == (b.cl : Int) && (a.pe : Int) == (b.pe : Int) && (a.pc : Int) == (b.pc : Int)) := by
    unfold eqLn; rw [Bool.eq_iff_iff]; simp only [Bool.and_eq_true, beq_iff_eq]; omega
  rw [e]
  rcases h1 : ((a.st : Int) == (b.st : Int)) with _ | _
  · simp [go_sem, h1]
  · rcases h2 : ((a.cl : Int) == (b.cl : Int)) with _ | _
    · simp [go_sem, h1, h2]
    · rcases h3 : ((a.pe : Int) == (b.pe : Int)) with _ | _
      · simp [go_sem, h1, h2, h3]
      · rcases h4 : ((a.pc : Int) == (b.pc : Int)) with _ | _ <;> simp [go_sem, h1, h2, h3, h4]
theorem own_form {w : World} {base : Nat} {e : TypeId} {size : Nat} {v : Value} {n : Nat} {xs : List Value} (h : w.ownsRow base e size v n xs) : ∃ a cap, v = .slice a n cap := by
  rcases h.2 with ⟨rfl, rfl⟩ | ⟨g, cap, cur, rfl, rest⟩
  · exact ⟨none, 0, rfl⟩
  · exact ⟨some ⟨g, 0, none⟩, cap, rfl⟩
theorem own_some {w : World} {base : Nat} {e : TypeId} {size : Nat} {v : Value} {n : Nat} {xs : List Value} (h : w.ownsRow base e size v n xs) (hn : 0 < n) : ∃ g cap, v = .slice (some ⟨g, 0, none⟩) n cap ∧ base ≤ g ∧ g < w.heap.size := by
  rcases h.2 with ⟨rfl, rfl⟩ | ⟨g, cap, cur, rfl, hb, hg, rest⟩
  · omega
  · exact ⟨g, cap, rfl, hb, (Array.getElem?_eq_some_iff.1 hg).1⟩
/-- a link's cells in a row of links -/
theorem link_at {w : World} {base g n cap : Nat} {l : List Ln} (h : w.ownsRow base 36 4 (.slice (some ⟨g, 0, none⟩) n cap) n (flatL l)) {i : Nat} {x : Ln} (hx : l[i]? = some x) :
    w.cell? ⟨g, i * 4, none⟩ = some (.int .i64 (x.st : Nat)) ∧ w.cell? ⟨g, i * 4 + 1, none⟩ = some (.int .u64 (x.cl : Nat)) ∧ w.cell? ⟨g, i * 4 + 2, none⟩ = some (.int .u64 (x.pe : Nat)) ∧ w.cell? ⟨g, i * 4 + 3, none⟩ = some (.int .u64 (x.pc : Nat)) := by
  have hc : ∀ j u, (lnV x)[j]? = some u → w.cell? ⟨g, i * 4 + j, none⟩ = some u := fun j u hj => by
    have := World.ownsRow.cells h (g := g) rfl _ u (flatL_at hx hj)
    rw [Addr.add_lit] at this
    simpa using this
  exact ⟨hc 0 _ rfl, hc 1 _ rfl, hc 2 _ rfl, hc 3 _ rfl⟩
theorem slot_at {w : World} {base g n cap : Nat} {e : TypeId} {xs : List Value} (h : w.ownsRow base e 1 (.slice (some ⟨g, 0, none⟩) n cap) n xs) {i : Nat} {v : Value} (hv : xs[i]? = some v) : w.cell? ⟨g, i, none⟩ = some v := by
  have := World.ownsRow.cells h (g := g) rfl i v hv
  rw [Addr.add_lit] at this
  simpa using this
/-- a link in a block of its own -/
def lk (w : World) (q : Nat) (x : Ln) : Prop := w.heap[q]? = some (.cells #[.int .i64 (x.st : Nat), .int .u64 (x.cl : Nat), .int .u64 (x.pe : Nat), .int .u64 (x.pc : Nat)] 36 (0, 0))
theorem lk.keep {w w' : World} {q : Nat} {x : Ln} (h : lk w q x) (k : New w w') : lk w' q x := k.kept h (fun h => h)
theorem lk.cells {w : World} {q : Nat} {x : Ln} (h : lk w q x) : w.cell? ⟨q, 0, none⟩ = some (.int .i64 (x.st : Nat)) ∧ w.cell? ⟨q, 1, none⟩ = some (.int .u64 (x.cl : Nat)) ∧ w.cell? ⟨q, 2, none⟩ = some (.int .u64 (x.pe : Nat)) ∧ w.cell? ⟨q, 3, none⟩ = some (.int .u64 (x.pc : Nat)) := (cells4 h).1
set_option maxHeartbeats 2000000 in
theorem stood_any (w0 : World) (P : Nat) (s : His) (c n : Nat) (l : Ln) (hc : c < 2) (hls : (s c).length ≤ 1000) (hlh : ∀ h ∈ s c, h.length ≤ 1000) (w : World) (h : Pl w0 w P s) :
    Calls Try.prog 56 #[.pointer (some ⟨P, 0, none⟩), .int .i64 (c : Nat), .int .u64 (n : Nat), .agg #[.int .i64 (l.st : Nat), .int .u64 (l.cl : Nat), .int .u64 (l.pe : Nat), .int .u64 (l.pc : Nat)]] w fun e w' => e = .returned (.bool (stoodB s c n l)) ∧ New w w' := by
  have n1 : New w (w.alloc (.cells #[.int .i64 (l.st : Nat), .int .u64 (l.cl : Nat), .int .u64 (l.pe : Nat), .int .u64 (l.pc : Nat)] 36)) := (Keeps.refl _ w).alloc _
  have q1 : lk (w.alloc (.cells #[.int .i64 (l.st : Nat), .int .u64 (l.cl : Nat), .int .u64 (l.pe : Nat), .int .u64 (l.pc : Nat)] 36)) w.heap.size l := heap_alloc_new w _
  obtain ⟨E, V, B, h1⟩ := h.keep n1
  have hW := h1.bdy.was c hc
  obtain ⟨va, vcap, hVe⟩ := own_form hW
  have pc := (h1.blk.cell hc).2.1
  rw [hVe] at pc hW
  have hB : (B c).length = (s c).length := by have := hW.1; omega
  obtain ⟨L, hL⟩ : ∃ L, Hid ((s c).length = L) := ⟨_, rfl⟩
  rw [hL.out] at pc hls hB
  have c0 : (0 : Int) ≤ (c : Int) := Int.natCast_nonneg _
  have c2 : (c : Int) < 2 := by omega
  have eL : IntKind.u64.wrap (L : Int) = (L : Int) := IntWalk.u64_in _ ⟨by omega, by omega⟩
  by_cases hlt : n < L
  · obtain ⟨k, hk⟩ : ∃ k, (s c)[n]? = some k := ⟨_, List.getElem?_eq_getElem (by rw [hL.out]; exact hlt)⟩
    obtain ⟨v, hv1, ⟨hv2, hv3, -⟩, -⟩ := h1.bdy.his c n k hc hk
    obtain ⟨vg, vcap2, e, hvb, hvl⟩ := own_some hW (by rw [hL.out]; omega)
    cases e
    have dv := slot_at hW hv1
    obtain ⟨g, gcap, rfl, hgb, hgl⟩ := own_some hv2 hv3
    have hkl := hlh k (List.mem_of_getElem? hk)
    have HR : Hid (stoodB s c n l = k.any (fun x => eqLn x l)) := by rw [Hid]; unfold stoodB; rw [hk]
    generalize stoodB s c n l = out at *
    clear h h1 hlh hk hv1 hB
    obtain ⟨K, hK⟩ : ∃ K, Hid (k.length = K) := ⟨_, rfl⟩
    rw [hK.out] at dv hkl hv3
    have nL : (n : Int) < (L : Int) := by omega
    have n0 : (0 : Int) ≤ (n : Int) := Int.natCast_nonneg _
    go_enter Try.func56, Try.ntmps56
    go_upto_region 1 with (fail)
    revert n1 q1 pc dv hv2 hW
    generalize World.alloc w _ = W
    generalize w.heap.size = Q
    intro n1 q1 hW pc hv2 dv
    have cq := q1.cells
    go_wp2_with fail
    go_loopw [9] (fun i wr => ∃ m j : Nat, m ≤ K ∧ i = .int .i64 m ∧ wr = W.drewN j ∧ ∀ (i : Nat) (x : Ln), i < m → k[i]? = some x → eqLn x l = false) (fun i _ => K - (intOf i).toNat)
    case atStart => exact ⟨0, 0, Nat.zero_le _, rfl, rfl, fun i x hi => by omega⟩
    case round =>
      obtain ⟨m, j, hm, rfl, rfl, hno⟩ := hrel
      have n2 : New w (W.drewN j) := n1.drewN j
      obtain ⟨cq0, cq1, cq2, cq3⟩ := cq
      have HNO := Lib.hid hno
      clear hno
      have m0 : (0 : Int) ≤ (m : Int) := Int.natCast_nonneg _
      by_cases hmk : m < K
      · obtain ⟨x, hx⟩ : ∃ x, k[m]? = some x := ⟨_, List.getElem?_eq_getElem (by rw [hK.out]; exact hmk)⟩
        have mK : (m : Int) < (K : Int) := by omega
        obtain ⟨x0, x1, x2, x3⟩ := link_at hv2 hx
        have EQ := eqLk x l
        rcases e1 : eqLn x l with _ | _
        · rw [e1] at EQ
          go_wp2_with fail
          go_quiet (fail)
          go_wp2_with fail
          go_roundw
          case rel =>
            refine ⟨m + 1, _, by omega, by go_num, rfl, fun i z hi hz => ?_⟩
            by_cases e : i = m
            · subst e; rw [hx] at hz; injection hz with hz; subst hz; exact e1
            · exact HNO.out i z (by omega) hz
          case measure => simp [intOf]; omega
        · rw [e1] at EQ
          have HR2 : Hid (out = true) := by
            rw [Hid, HR.out, List.any_eq_true]
            exact ⟨x, List.mem_of_getElem? hx, e1⟩
          go_wp2_with fail
          go_quiet (fail)
          go_wp2_with fail
          go_ret
          exact ⟨by rw [HR2.out]; rfl, n2.drewN _⟩
      · obtain rfl : m = K := by omega
        have HR2 : Hid (out = false) := by
          rw [Hid, HR.out, List.any_eq_false]
          intro x hx
          obtain ⟨i, hi⟩ := List.mem_iff_getElem?.1 hx
          have := (List.getElem?_eq_some_iff.1 hi).1
          simpa using HNO.out i x (by rw [← hK.out]; exact this) hi
        go_wp2_with fail
        go_ret
        exact ⟨by rw [HR2.out]; rfl, n2⟩
  · have HR : Hid (stoodB s c n l = false) := by rw [Hid]; unfold stoodB; rw [List.getElem?_eq_none (by rw [hL.out]; omega)]
    generalize stoodB s c n l = out at *
    clear h h1 hlh hB
    have nL : ¬ (n : Int) < (L : Int) := by omega
    go_enter Try.func56, Try.ntmps56
    go_upto_region 1 with (fail)
    revert n1 q1 pc hW
    generalize World.alloc w _ = W
    generalize w.heap.size = Q
    intro n1 q1 hW pc
    go_wp2_with fail
    go_ret
    exact ⟨by rw [HR.out]; rfl, n1⟩
end Go.Proofs.Ytclldibadmnppaa
