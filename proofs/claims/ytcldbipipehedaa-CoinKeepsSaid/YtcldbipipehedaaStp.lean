/-
  voussoirlaw19.step.
-/
import Derived.Test.YtcldbipipehedaaPkN
import Derived.Test.YtcldbipipehedaaAwl
import Derived.Test.YtcldbipipehedaaTr5
namespace Go.Proofs.Ytcldbipipehedaa
open Go.RowKit Go.ChangeMaps
def stE (s : BkS) (x : A19) (c : Co) : Int :=
  if pk x.what 7 ≤ 2 then outE s (1 + pk x.side 2) c else if pk x.what 7 ≤ 4 then inE s (1 + pk x.side 2) (3 - (1 + pk x.side 2)) c else backE s (1 + pk x.side 2) c
def stS (s : BkS) (x : A19) (c : Co) : BkS :=
  if pk x.what 7 ≤ 2 then outS s (1 + pk x.side 2) c else if pk x.what 7 ≤ 4 then inS s (1 + pk x.side 2) (3 - (1 + pk x.side 2)) c else backS s (1 + pk x.side 2) c
def actV (x : A19) : Value := .agg #[.int .i64 x.what, .int .i64 x.side, .int .i64 x.fr, .int .i64 x.to, .int .i64 x.den, .int .i64 x.which, .int .u64 (x.n : Nat)]
theorem act_cells {w : World} {q : Nat} {x : A19} (h : w.heap[q]? = some (.cells #[.int .i64 x.what, .int .i64 x.side, .int .i64 x.fr, .int .i64 x.to, .int .i64 x.den, .int .i64 x.which, .int .u64 (x.n : Nat)] 39 (0, 0))) :
    w.cell? ⟨q, 0, none⟩ = some (.int .i64 x.what) ∧ w.cell? ⟨q, 1, none⟩ = some (.int .i64 x.side) ∧ w.cell? ⟨q, 2, none⟩ = some (.int .i64 x.fr) ∧ w.cell? ⟨q, 3, none⟩ = some (.int .i64 x.to) ∧ w.cell? ⟨q, 4, none⟩ = some (.int .i64 x.den) ∧ w.cell? ⟨q, 5, none⟩ = some (.int .i64 x.which) ∧ w.cell? ⟨q, 6, none⟩ = some (.int .u64 (x.n : Nat)) := by
  refine ⟨?_, ?_, ?_, ?_, ?_, ?_, ?_⟩ <;> (rw [cell_blk h]; rfl)
set_option maxHeartbeats 8000000 in
set_option maxRecDepth 100000 in
theorem step_any (b mb ms n : Nat) (s : BkS) (x : A19) (hw : I64 x.what) (hs : I64 x.side) (c : Co) (hv : U64 c.amt) (hn : n ≤ 1000000) (w : World) (h : Bk w b mb ms n s) :
    Calls Try.prog 39 #[.pointer (some ⟨b, 0, none⟩), .agg #[.int .i64 x.what, .int .i64 x.side, .int .i64 x.fr, .int .i64 x.to, .int .i64 x.den, .int .i64 x.which, .int .u64 (x.n : Nat)], .agg #[.string ⟨c.den.toArray⟩, .int .u64 c.amt, .string ⟨c.fr.toArray⟩, .string ⟨c.to.toArray⟩]] w fun e w' => e = .returned (.int .i64 (stE s x c)) ∧ Bk w' b mb ms (n + 2) (stS s x c) ∧ Keeps (Two mb ms) w w' := by
  have k1 : New w (w.alloc (.cells #[.int .i64 x.what, .int .i64 x.side, .int .i64 x.fr, .int .i64 x.to, .int .i64 x.den, .int .i64 x.which, .int .u64 (x.n : Nat)] 39)) := (New.refl w).alloc _
  have a1 := heap_alloc_new w (.cells #[.int .i64 x.what, .int .i64 x.side, .int .i64 x.fr, .int .i64 x.to, .int .i64 x.den, .int .i64 x.which, .int .u64 (x.n : Nat)] 39)
  have k2 : New (w.alloc (.cells #[.int .i64 x.what, .int .i64 x.side, .int .i64 x.fr, .int .i64 x.to, .int .i64 x.den, .int .i64 x.which, .int .u64 (x.n : Nat)] 39)) ((w.alloc (.cells #[.int .i64 x.what, .int .i64 x.side, .int .i64 x.fr, .int .i64 x.to, .int .i64 x.den, .int .i64 x.which, .int .u64 (x.n : Nat)] 39)).alloc (.cells #[.string ⟨c.den.toArray⟩, .int .u64 c.amt, .string ⟨c.fr.toArray⟩, .string ⟨c.to.toArray⟩] 41)) := (New.refl _).alloc _
  have a2 := k2.kept a1 (fun h => h)
  have q2 : cn ((w.alloc (.cells #[.int .i64 x.what, .int .i64 x.side, .int .i64 x.fr, .int .i64 x.to, .int .i64 x.den, .int .i64 x.which, .int .u64 (x.n : Nat)] 39)).alloc (.cells #[.string ⟨c.den.toArray⟩, .int .u64 c.amt, .string ⟨c.fr.toArray⟩, .string ⟨c.to.toArray⟩] 41)) (w.heap.size + 1) c := by
    have := heap_alloc_new (w.alloc (.cells #[.int .i64 x.what, .int .i64 x.side, .int .i64 x.fr, .int .i64 x.to, .int .i64 x.den, .int .i64 x.which, .int .u64 (x.n : Nat)] 39)) (.cells #[.string ⟨c.den.toArray⟩, .int .u64 c.amt, .string ⟨c.fr.toArray⟩, .string ⟨c.to.toArray⟩] 41)
    simp only [World.size_alloc] at this
    exact this
  have h2 := (h.keep k1).keep k2
  have n2 := k1.then k2 (fun _ h => h.elim)
  have P1 := fun w => pickC_any x.side 2 w hs (by omega) (by omega)
  have P2 := fun w => pickC_any x.what 7 w hw (by omega) (by omega)
  have hp := pk_lt x.side 2 (by omega)
  have hk := pk_lt x.what 7 (by omega)
  have O : ∀ (p : Nat) w1, U64 p → Bk w1 b mb ms n s → _ := fun p w1 hp' h' => out_any b mb ms n s p hp' c hv hn w1 h'
  have I : ∀ (p r : Nat) w1, U64 p → U64 r → Bk w1 b mb ms n s → _ := fun p r w1 hp' hr' h' => in_any b mb ms n s p r hp' hr' c hv hn w1 h'
  have B : ∀ (p : Nat) w1, U64 p → Bk w1 b mb ms n s → _ := fun p w1 hp' h' => back_any b mb ms n s p hp' c hv hn w1 h'
  unfold stE stS
  generalize pk x.side 2 = p at *
  generalize pk x.what 7 = k at *
  have hp2 : p = 0 ∨ p = 1 := by omega
  have hk2 : k = 0 ∨ k = 1 ∨ k = 2 ∨ k = 3 ∨ k = 4 ∨ k = 5 ∨ k = 6 := by omega
  have h64 : ∀ m, m ≤ 3 → U64 m := fun m h => by show m < _; omega
  clear h k1 k2 a1
  rcases hp2 with rfl | rfl <;> rcases hk2 with rfl | rfl | rfl | rfl | rfl | rfl | rfl
  · show Calls _ _ _ _ fun e w' => e = .returned (.int .i64 (outE s 1 c)) ∧ Bk w' b mb ms (n + 2) (outS s 1 c) ∧ Keeps (Two mb ms) w w'
    go_enter Try.func39, Try.ntmps39
    go_upto_region 1 with (fail)
    revert n2 a2 q2 h2
    generalize ((w.alloc (.cells #[.int .i64 x.what, .int .i64 x.side, .int .i64 x.fr, .int .i64 x.to, .int .i64 x.den, .int .i64 x.which, .int .u64 (x.n : Nat)] 39)).alloc (.cells #[.string ⟨c.den.toArray⟩, .int .u64 c.amt, .string ⟨c.fr.toArray⟩, .string ⟨c.to.toArray⟩] 41)) = w2
    generalize w.heap.size + 1 = Q2
    generalize w.heap.size = Q1
    intro a2 q2 h2 n2
    have da := act_cells a2
    have dc := q2.cells
    go_wp2_with fail
    refine (P1 _).mono ?_
    rintro e w3 ⟨rfl, rfl⟩
    go_wp2_with fail
    refine (P2 _).mono ?_
    rintro e w3 ⟨rfl, rfl⟩
    go_wp2_with fail
    refine (O 1 _ (h64 _ (by omega)) h2).mono ?_
    rintro e w3 ⟨rfl, h3, k3⟩
    go_wp2_with fail
    go_ret
    exact ⟨rfl, h3, n2.trans k3 (fun _ _ h => h.elim) (fun _ _ h => h)⟩
  · show Calls _ _ _ _ fun e w' => e = .returned (.int .i64 (outE s 1 c)) ∧ Bk w' b mb ms (n + 2) (outS s 1 c) ∧ Keeps (Two mb ms) w w'
    go_enter Try.func39, Try.ntmps39
    go_upto_region 1 with (fail)
    revert n2 a2 q2 h2
    generalize ((w.alloc (.cells #[.int .i64 x.what, .int .i64 x.side, .int .i64 x.fr, .int .i64 x.to, .int .i64 x.den, .int .i64 x.which, .int .u64 (x.n : Nat)] 39)).alloc (.cells #[.string ⟨c.den.toArray⟩, .int .u64 c.amt, .string ⟨c.fr.toArray⟩, .string ⟨c.to.toArray⟩] 41)) = w2
    generalize w.heap.size + 1 = Q2
    generalize w.heap.size = Q1
    intro a2 q2 h2 n2
    have da := act_cells a2
    have dc := q2.cells
    go_wp2_with fail
    refine (P1 _).mono ?_
    rintro e w3 ⟨rfl, rfl⟩
    go_wp2_with fail
    refine (P2 _).mono ?_
    rintro e w3 ⟨rfl, rfl⟩
    go_wp2_with fail
    refine (O 1 _ (h64 _ (by omega)) h2).mono ?_
    rintro e w3 ⟨rfl, h3, k3⟩
    go_wp2_with fail
    go_ret
    exact ⟨rfl, h3, n2.trans k3 (fun _ _ h => h.elim) (fun _ _ h => h)⟩
  · show Calls _ _ _ _ fun e w' => e = .returned (.int .i64 (outE s 1 c)) ∧ Bk w' b mb ms (n + 2) (outS s 1 c) ∧ Keeps (Two mb ms) w w'
    go_enter Try.func39, Try.ntmps39
    go_upto_region 1 with (fail)
    revert n2 a2 q2 h2
    generalize ((w.alloc (.cells #[.int .i64 x.what, .int .i64 x.side, .int .i64 x.fr, .int .i64 x.to, .int .i64 x.den, .int .i64 x.which, .int .u64 (x.n : Nat)] 39)).alloc (.cells #[.string ⟨c.den.toArray⟩, .int .u64 c.amt, .string ⟨c.fr.toArray⟩, .string ⟨c.to.toArray⟩] 41)) = w2
    generalize w.heap.size + 1 = Q2
    generalize w.heap.size = Q1
    intro a2 q2 h2 n2
    have da := act_cells a2
    have dc := q2.cells
    go_wp2_with fail
    refine (P1 _).mono ?_
    rintro e w3 ⟨rfl, rfl⟩
    go_wp2_with fail
    refine (P2 _).mono ?_
    rintro e w3 ⟨rfl, rfl⟩
    go_wp2_with fail
    refine (O 1 _ (h64 _ (by omega)) h2).mono ?_
    rintro e w3 ⟨rfl, h3, k3⟩
    go_wp2_with fail
    go_ret
    exact ⟨rfl, h3, n2.trans k3 (fun _ _ h => h.elim) (fun _ _ h => h)⟩
  · show Calls _ _ _ _ fun e w' => e = .returned (.int .i64 (inE s 1 2 c)) ∧ Bk w' b mb ms (n + 2) (inS s 1 2 c) ∧ Keeps (Two mb ms) w w'
    go_enter Try.func39, Try.ntmps39
    go_upto_region 1 with (fail)
    revert n2 a2 q2 h2
    generalize ((w.alloc (.cells #[.int .i64 x.what, .int .i64 x.side, .int .i64 x.fr, .int .i64 x.to, .int .i64 x.den, .int .i64 x.which, .int .u64 (x.n : Nat)] 39)).alloc (.cells #[.string ⟨c.den.toArray⟩, .int .u64 c.amt, .string ⟨c.fr.toArray⟩, .string ⟨c.to.toArray⟩] 41)) = w2
    generalize w.heap.size + 1 = Q2
    generalize w.heap.size = Q1
    intro a2 q2 h2 n2
    have da := act_cells a2
    have dc := q2.cells
    go_wp2_with fail
    refine (P1 _).mono ?_
    rintro e w3 ⟨rfl, rfl⟩
    go_wp2_with fail
    refine (P2 _).mono ?_
    rintro e w3 ⟨rfl, rfl⟩
    go_wp2_with fail
    refine (I 1 2 _ (h64 _ (by omega)) (h64 _ (by omega)) h2).mono ?_
    rintro e w3 ⟨rfl, h3, k3⟩
    go_wp2_with fail
    go_ret
    exact ⟨rfl, h3, n2.trans k3 (fun _ _ h => h.elim) (fun _ _ h => h)⟩
  · show Calls _ _ _ _ fun e w' => e = .returned (.int .i64 (inE s 1 2 c)) ∧ Bk w' b mb ms (n + 2) (inS s 1 2 c) ∧ Keeps (Two mb ms) w w'
    go_enter Try.func39, Try.ntmps39
    go_upto_region 1 with (fail)
    revert n2 a2 q2 h2
    generalize ((w.alloc (.cells #[.int .i64 x.what, .int .i64 x.side, .int .i64 x.fr, .int .i64 x.to, .int .i64 x.den, .int .i64 x.which, .int .u64 (x.n : Nat)] 39)).alloc (.cells #[.string ⟨c.den.toArray⟩, .int .u64 c.amt, .string ⟨c.fr.toArray⟩, .string ⟨c.to.toArray⟩] 41)) = w2
    generalize w.heap.size + 1 = Q2
    generalize w.heap.size = Q1
    intro a2 q2 h2 n2
    have da := act_cells a2
    have dc := q2.cells
    go_wp2_with fail
    refine (P1 _).mono ?_
    rintro e w3 ⟨rfl, rfl⟩
    go_wp2_with fail
    refine (P2 _).mono ?_
    rintro e w3 ⟨rfl, rfl⟩
    go_wp2_with fail
    refine (I 1 2 _ (h64 _ (by omega)) (h64 _ (by omega)) h2).mono ?_
    rintro e w3 ⟨rfl, h3, k3⟩
    go_wp2_with fail
    go_ret
    exact ⟨rfl, h3, n2.trans k3 (fun _ _ h => h.elim) (fun _ _ h => h)⟩
  · show Calls _ _ _ _ fun e w' => e = .returned (.int .i64 (backE s 1 c)) ∧ Bk w' b mb ms (n + 2) (backS s 1 c) ∧ Keeps (Two mb ms) w w'
    go_enter Try.func39, Try.ntmps39
    go_upto_region 1 with (fail)
    revert n2 a2 q2 h2
    generalize ((w.alloc (.cells #[.int .i64 x.what, .int .i64 x.side, .int .i64 x.fr, .int .i64 x.to, .int .i64 x.den, .int .i64 x.which, .int .u64 (x.n : Nat)] 39)).alloc (.cells #[.string ⟨c.den.toArray⟩, .int .u64 c.amt, .string ⟨c.fr.toArray⟩, .string ⟨c.to.toArray⟩] 41)) = w2
    generalize w.heap.size + 1 = Q2
    generalize w.heap.size = Q1
    intro a2 q2 h2 n2
    have da := act_cells a2
    have dc := q2.cells
    go_wp2_with fail
    refine (P1 _).mono ?_
    rintro e w3 ⟨rfl, rfl⟩
    go_wp2_with fail
    refine (P2 _).mono ?_
    rintro e w3 ⟨rfl, rfl⟩
    go_wp2_with fail
    refine (B 1 _ (h64 _ (by omega)) h2).mono ?_
    rintro e w3 ⟨rfl, h3, k3⟩
    go_wp2_with fail
    go_ret
    exact ⟨rfl, h3, n2.trans k3 (fun _ _ h => h.elim) (fun _ _ h => h)⟩
  · show Calls _ _ _ _ fun e w' => e = .returned (.int .i64 (backE s 1 c)) ∧ Bk w' b mb ms (n + 2) (backS s 1 c) ∧ Keeps (Two mb ms) w w'
    go_enter Try.func39, Try.ntmps39
    go_upto_region 1 with (fail)
    revert n2 a2 q2 h2
    generalize ((w.alloc (.cells #[.int .i64 x.what, .int .i64 x.side, .int .i64 x.fr, .int .i64 x.to, .int .i64 x.den, .int .i64 x.which, .int .u64 (x.n : Nat)] 39)).alloc (.cells #[.string ⟨c.den.toArray⟩, .int .u64 c.amt, .string ⟨c.fr.toArray⟩, .string ⟨c.to.toArray⟩] 41)) = w2
    generalize w.heap.size + 1 = Q2
    generalize w.heap.size = Q1
    intro a2 q2 h2 n2
    have da := act_cells a2
    have dc := q2.cells
    go_wp2_with fail
    refine (P1 _).mono ?_
    rintro e w3 ⟨rfl, rfl⟩
    go_wp2_with fail
    refine (P2 _).mono ?_
    rintro e w3 ⟨rfl, rfl⟩
    go_wp2_with fail
    refine (B 1 _ (h64 _ (by omega)) h2).mono ?_
    rintro e w3 ⟨rfl, h3, k3⟩
    go_wp2_with fail
    go_ret
    exact ⟨rfl, h3, n2.trans k3 (fun _ _ h => h.elim) (fun _ _ h => h)⟩
  · show Calls _ _ _ _ fun e w' => e = .returned (.int .i64 (outE s 2 c)) ∧ Bk w' b mb ms (n + 2) (outS s 2 c) ∧ Keeps (Two mb ms) w w'
    go_enter Try.func39, Try.ntmps39
    go_upto_region 1 with (fail)
    revert n2 a2 q2 h2
    generalize ((w.alloc (.cells #[.int .i64 x.what, .int .i64 x.side, .int .i64 x.fr, .int .i64 x.to, .int .i64 x.den, .int .i64 x.which, .int .u64 (x.n : Nat)] 39)).alloc (.cells #[.string ⟨c.den.toArray⟩, .int .u64 c.amt, .string ⟨c.fr.toArray⟩, .string ⟨c.to.toArray⟩] 41)) = w2
    generalize w.heap.size + 1 = Q2
    generalize w.heap.size = Q1
    intro a2 q2 h2 n2
    have da := act_cells a2
    have dc := q2.cells
    go_wp2_with fail
    refine (P1 _).mono ?_
    rintro e w3 ⟨rfl, rfl⟩
    go_wp2_with fail
    refine (P2 _).mono ?_
    rintro e w3 ⟨rfl, rfl⟩
    go_wp2_with fail
    refine (O 2 _ (h64 _ (by omega)) h2).mono ?_
    rintro e w3 ⟨rfl, h3, k3⟩
    go_wp2_with fail
    go_ret
    exact ⟨rfl, h3, n2.trans k3 (fun _ _ h => h.elim) (fun _ _ h => h)⟩
  · show Calls _ _ _ _ fun e w' => e = .returned (.int .i64 (outE s 2 c)) ∧ Bk w' b mb ms (n + 2) (outS s 2 c) ∧ Keeps (Two mb ms) w w'
    go_enter Try.func39, Try.ntmps39
    go_upto_region 1 with (fail)
    revert n2 a2 q2 h2
    generalize ((w.alloc (.cells #[.int .i64 x.what, .int .i64 x.side, .int .i64 x.fr, .int .i64 x.to, .int .i64 x.den, .int .i64 x.which, .int .u64 (x.n : Nat)] 39)).alloc (.cells #[.string ⟨c.den.toArray⟩, .int .u64 c.amt, .string ⟨c.fr.toArray⟩, .string ⟨c.to.toArray⟩] 41)) = w2
    generalize w.heap.size + 1 = Q2
    generalize w.heap.size = Q1
    intro a2 q2 h2 n2
    have da := act_cells a2
    have dc := q2.cells
    go_wp2_with fail
    refine (P1 _).mono ?_
    rintro e w3 ⟨rfl, rfl⟩
    go_wp2_with fail
    refine (P2 _).mono ?_
    rintro e w3 ⟨rfl, rfl⟩
    go_wp2_with fail
    refine (O 2 _ (h64 _ (by omega)) h2).mono ?_
    rintro e w3 ⟨rfl, h3, k3⟩
    go_wp2_with fail
    go_ret
    exact ⟨rfl, h3, n2.trans k3 (fun _ _ h => h.elim) (fun _ _ h => h)⟩
  · show Calls _ _ _ _ fun e w' => e = .returned (.int .i64 (outE s 2 c)) ∧ Bk w' b mb ms (n + 2) (outS s 2 c) ∧ Keeps (Two mb ms) w w'
    go_enter Try.func39, Try.ntmps39
    go_upto_region 1 with (fail)
    revert n2 a2 q2 h2
    generalize ((w.alloc (.cells #[.int .i64 x.what, .int .i64 x.side, .int .i64 x.fr, .int .i64 x.to, .int .i64 x.den, .int .i64 x.which, .int .u64 (x.n : Nat)] 39)).alloc (.cells #[.string ⟨c.den.toArray⟩, .int .u64 c.amt, .string ⟨c.fr.toArray⟩, .string ⟨c.to.toArray⟩] 41)) = w2
    generalize w.heap.size + 1 = Q2
    generalize w.heap.size = Q1
    intro a2 q2 h2 n2
    have da := act_cells a2
    have dc := q2.cells
    go_wp2_with fail
    refine (P1 _).mono ?_
    rintro e w3 ⟨rfl, rfl⟩
    go_wp2_with fail
    refine (P2 _).mono ?_
    rintro e w3 ⟨rfl, rfl⟩
    go_wp2_with fail
    refine (O 2 _ (h64 _ (by omega)) h2).mono ?_
    rintro e w3 ⟨rfl, h3, k3⟩
    go_wp2_with fail
    go_ret
    exact ⟨rfl, h3, n2.trans k3 (fun _ _ h => h.elim) (fun _ _ h => h)⟩
  · show Calls _ _ _ _ fun e w' => e = .returned (.int .i64 (inE s 2 1 c)) ∧ Bk w' b mb ms (n + 2) (inS s 2 1 c) ∧ Keeps (Two mb ms) w w'
    go_enter Try.func39, Try.ntmps39
    go_upto_region 1 with (fail)
    revert n2 a2 q2 h2
    generalize ((w.alloc (.cells #[.int .i64 x.what, .int .i64 x.side, .int .i64 x.fr, .int .i64 x.to, .int .i64 x.den, .int .i64 x.which, .int .u64 (x.n : Nat)] 39)).alloc (.cells #[.string ⟨c.den.toArray⟩, .int .u64 c.amt, .string ⟨c.fr.toArray⟩, .string ⟨c.to.toArray⟩] 41)) = w2
    generalize w.heap.size + 1 = Q2
    generalize w.heap.size = Q1
    intro a2 q2 h2 n2
    have da := act_cells a2
    have dc := q2.cells
    go_wp2_with fail
    refine (P1 _).mono ?_
    rintro e w3 ⟨rfl, rfl⟩
    go_wp2_with fail
    refine (P2 _).mono ?_
    rintro e w3 ⟨rfl, rfl⟩
    go_wp2_with fail
    refine (I 2 1 _ (h64 _ (by omega)) (h64 _ (by omega)) h2).mono ?_
    rintro e w3 ⟨rfl, h3, k3⟩
    go_wp2_with fail
    go_ret
    exact ⟨rfl, h3, n2.trans k3 (fun _ _ h => h.elim) (fun _ _ h => h)⟩
  · show Calls _ _ _ _ fun e w' => e = .returned (.int .i64 (inE s 2 1 c)) ∧ Bk w' b mb ms (n + 2) (inS s 2 1 c) ∧ Keeps (Two mb ms) w w'
    go_enter Try.func39, Try.ntmps39
    go_upto_region 1 with (fail)
    revert n2 a2 q2 h2
    generalize ((w.alloc (.cells #[.int .i64 x.what, .int .i64 x.side, .int .i64 x.fr, .int .i64 x.to, .int .i64 x.den, .int .i64 x.which, .int .u64 (x.n : Nat)] 39)).alloc (.cells #[.string ⟨c.den.toArray⟩, .int .u64 c.amt, .string ⟨c.fr.toArray⟩, .string ⟨c.to.toArray⟩] 41)) = w2
    generalize w.heap.size + 1 = Q2
    generalize w.heap.size = Q1
    intro a2 q2 h2 n2
    have da := act_cells a2
    have dc := q2.cells
    go_wp2_with fail
    refine (P1 _).mono ?_
    rintro e w3 ⟨rfl, rfl⟩
    go_wp2_with fail
    refine (P2 _).mono ?_
    rintro e w3 ⟨rfl, rfl⟩
    go_wp2_with fail
    refine (I 2 1 _ (h64 _ (by omega)) (h64 _ (by omega)) h2).mono ?_
    rintro e w3 ⟨rfl, h3, k3⟩
    go_wp2_with fail
    go_ret
    exact ⟨rfl, h3, n2.trans k3 (fun _ _ h => h.elim) (fun _ _ h => h)⟩
  · show Calls _ _ _ _ fun e w' => e = .returned (.int .i64 (backE s 2 c)) ∧ Bk w' b mb ms (n + 2) (backS s 2 c) ∧ Keeps (Two mb ms) w w'
    go_enter Try.func39, Try.ntmps39
    go_upto_region 1 with (fail)
    revert n2 a2 q2 h2
    generalize ((w.alloc (.cells #[.int .i64 x.what, .int .i64 x.side, .int .i64 x.fr, .int .i64 x.to, .int .i64 x.den, .int .i64 x.which, .int .u64 (x.n : Nat)] 39)).alloc (.cells #[.string ⟨c.den.toArray⟩, .int .u64 c.amt, .string ⟨c.fr.toArray⟩, .string ⟨c.to.toArray⟩] 41)) = w2
    generalize w.heap.size + 1 = Q2
    generalize w.heap.size = Q1
    intro a2 q2 h2 n2
    have da := act_cells a2
    have dc := q2.cells
    go_wp2_with fail
    refine (P1 _).mono ?_
    rintro e w3 ⟨rfl, rfl⟩
    go_wp2_with fail
    refine (P2 _).mono ?_
    rintro e w3 ⟨rfl, rfl⟩
    go_wp2_with fail
    refine (B 2 _ (h64 _ (by omega)) h2).mono ?_
    rintro e w3 ⟨rfl, h3, k3⟩
    go_wp2_with fail
    go_ret
    exact ⟨rfl, h3, n2.trans k3 (fun _ _ h => h.elim) (fun _ _ h => h)⟩
  · show Calls _ _ _ _ fun e w' => e = .returned (.int .i64 (backE s 2 c)) ∧ Bk w' b mb ms (n + 2) (backS s 2 c) ∧ Keeps (Two mb ms) w w'
    go_enter Try.func39, Try.ntmps39
    go_upto_region 1 with (fail)
    revert n2 a2 q2 h2
    generalize ((w.alloc (.cells #[.int .i64 x.what, .int .i64 x.side, .int .i64 x.fr, .int .i64 x.to, .int .i64 x.den, .int .i64 x.which, .int .u64 (x.n : Nat)] 39)).alloc (.cells #[.string ⟨c.den.toArray⟩, .int .u64 c.amt, .string ⟨c.fr.toArray⟩, .string ⟨c.to.toArray⟩] 41)) = w2
    generalize w.heap.size + 1 = Q2
    generalize w.heap.size = Q1
    intro a2 q2 h2 n2
    have da := act_cells a2
    have dc := q2.cells
    go_wp2_with fail
    refine (P1 _).mono ?_
    rintro e w3 ⟨rfl, rfl⟩
    go_wp2_with fail
    refine (P2 _).mono ?_
    rintro e w3 ⟨rfl, rfl⟩
    go_wp2_with fail
    refine (B 2 _ (h64 _ (by omega)) h2).mono ?_
    rintro e w3 ⟨rfl, h3, k3⟩
    go_wp2_with fail
    go_ret
    exact ⟨rfl, h3, n2.trans k3 (fun _ _ h => h.elim) (fun _ _ h => h)⟩
end Go.Proofs.Ytcldbipipehedaa
