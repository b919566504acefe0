/-
  WALKS: the document's bank: New, Balance, Supply, wrong.
-/
import Derived.Test.YtcldbipipehedaaRfA
import Derived.Deep.RegionWith
import Derived.LoopTactic
namespace Go.Proofs.Ytcldbipipehedaa
open Go.RowKit Go.ChangeMaps
def rwV (r : Rw) : List Value := [.string ⟨r.ac.toArray⟩, .string ⟨r.den.toArray⟩, .int .u64 (r.n : Nat)]
def flatR : List Rw → List Value
  | [] => []
  | x :: l => rwV x ++ flatR l
theorem flatR_len (l : List Rw) : (flatR l).length = l.length * 3 := by
  induction l with
  | nil => rfl
  | cons x l ih => simp only [flatR, List.length_append, ih, List.length_cons, rwV]; simp; omega
theorem flatR_app (l r : List Rw) : flatR (l ++ r) = flatR l ++ flatR r := by
  induction l with
  | nil => rfl
  | cons x l ih => simp only [List.cons_append, flatR, ih, List.append_assoc]
theorem flatR_one (l : List Rw) : ∀ u ∈ flatR l, u.oneCell' = true := by
  induction l with
  | nil => intro u h; cases h
  | cons x l ih =>
    intro u h
    rcases List.mem_append.1 h with h | h
    · simp only [rwV, List.mem_cons, List.not_mem_nil, or_false] at h
      rcases h with rfl | rfl | rfl <;> rfl
    · exact ih u h
theorem flatR_at {l : List Rw} {i : Nat} {x : Rw} (h : l[i]? = some x) {j : Nat} {u : Value} (hj : (rwV x)[j]? = some u) : (flatR l)[i * 3 + j]? = some u := by
  induction l generalizing i with
  | nil => cases h
  | cons y l ih =>
    have hj4 : j < 3 := (List.getElem?_eq_some_iff.1 hj).1
    cases i with
    | zero =>
      simp at h; subst h
      rw [flatR, List.getElem?_append_left (by simp [rwV]; omega), Nat.zero_mul, Nat.zero_add]
      exact hj
    | succ i =>
      rw [flatR, List.getElem?_append_right (by simp [rwV]; omega), show (i + 1) * 3 + j - (rwV y).length = i * 3 + j by simp [rwV]; omega]
      exact ih (by simpa using h)
/-- block b is the document's bank, its row has been made since w0 -/
structure Rb (w0 w : World) (b : Nat) (v : Value) (l : List Rw) : Prop where
  blk : w.heap[b]? = some (.cells #[v] 86 (0, 0))
  row : w.ownsRow w0.heap.size 95 3 v l.length (flatR l)
  ge : w0.heap.size ≤ b
theorem Rb.cell {w0 w : World} {b : Nat} {v : Value} {l : List Rw} (h : Rb w0 w b v l) : w.cell? ⟨b, 0, none⟩ = some v ∧ w.frozen? ⟨b, 0, none⟩ = false := by
  refine ⟨?_, frozen_blk h.blk 0⟩
  rw [cell_blk h.blk]; rfl
theorem Rb.keep {w0 w w' : World} {b : Nat} {v : Value} {l : List Rw} (h : Rb w0 w b v l) (k : New w w') : Rb w0 w' b v l := ⟨k.kept h.blk (fun h => h), Keeps.owns k h.row (fun _ _ h => h), h.ge⟩
theorem Rb.drew {w0 w : World} {b : Nat} {v : Value} {l : List Rw} (h : Rb w0 w b v l) : Rb w0 w.drew b v l := ⟨h.blk, h.row, h.ge⟩
theorem Rb.shape {w0 w : World} {b : Nat} {v : Value} {l : List Rw} (h : Rb w0 w b v l) : ∃ a cap, v = .slice a l.length cap ∧ ∀ i r, l[i]? = some r → ∃ g, a = some ⟨g, 0, none⟩ ∧ g < w.heap.size ∧
    w.cell? ⟨g, i * 3, none⟩ = some (.string ⟨r.ac.toArray⟩) ∧ w.cell? ⟨g, i * 3 + 1, none⟩ = some (.string ⟨r.den.toArray⟩) ∧ w.cell? ⟨g, i * 3 + 2, none⟩ = some (.int .u64 (r.n : Nat)) := by
  rcases h.row.2 with ⟨rfl, hn⟩ | ⟨g, cap, cur, rfl, hb, hgg, rest⟩
  · refine ⟨none, 0, by rw [hn], fun i r hi => ?_⟩
    have := (List.getElem?_eq_some_iff.1 hi).1
    omega
  · refine ⟨_, cap, rfl, fun i r hi => ⟨g, rfl, (Array.getElem?_eq_some_iff.1 hgg).1, ?_⟩⟩
    have hc : ∀ j u, (rwV r)[j]? = some u → w.cell? ⟨g, i * 3 + j, none⟩ = some u := fun j u hj => by
      have := World.ownsRow.cells h.row (g := g) rfl _ u (flatR_at hi hj)
      rw [Addr.add_lit] at this
      simpa using this
    exact ⟨hc 0 _ rfl, hc 1 _ rfl, hc 2 _ rfl⟩
theorem rNewB {w0 w : World} (n0 : New w0 w) :
    Calls Try.prog 20 #[] w fun e w' => e = .returned (.pointer (some ⟨w.heap.size, 0, none⟩)) ∧ Rb w0 w' w.heap.size (.slice none 0 0) [] ∧ New w w' := by
  have b1 := heap_alloc_new w (.cells #[.slice none 0 0] 86)
  have hs := n0.size
  have k1 : New w (w.alloc (.cells #[.slice none 0 0] 86)) := (New.refl w).alloc _
  go_enter Try.func20, Try.ntmps20
  go_wp2_with fail
  go_ret
  exact ⟨rfl, ⟨b1, World.ownsRow_nil _ _ _ _, hs⟩, k1⟩
set_option maxHeartbeats 1000000 in
theorem rBal_any (w0 : World) (b : Nat) (v : Value) (l : List Rw) (d a : List UInt8) (h63 : l.length ≤ 1000000) (w : World) (h : Rb w0 w b v l) :
    Calls Try.prog 35 #[.pointer (some ⟨b, 0, none⟩), .string ⟨a.toArray⟩, .string ⟨d.toArray⟩] w fun e w' => e = .returned (.int .u64 (rBal d a l : Nat)) ∧ w = w' := by
  have hc := h.cell.1
  obtain ⟨ao, cap, rfl, hat⟩ := h.shape
  obtain ⟨n, hn⟩ : ∃ n, Hid (l.length = n) := ⟨_, rfl⟩
  rw [hn.out] at hc h63
  clear h
  go_enter Try.func35, Try.ntmps35
  go_wp2_with fail
  go_loop [7] (fun i => ∃ k : Nat, k ≤ n ∧ i = .int .i64 k ∧ ∀ i r, i < k → l[i]? = some r → hitR d a r = false) (fun i => n - (intOf i).toNat)
  case atStart => exact ⟨0, Nat.zero_le _, rfl, fun i r hi => by omega⟩
  case round =>
    obtain ⟨k, hk, rfl, hno⟩ := hrel
    have HNO := Lib.hid hno
    clear hno
    by_cases hlt : k < n
    · obtain ⟨r, hr⟩ : ∃ r, l[k]? = some r := ⟨_, List.getElem?_eq_getElem (by rw [hn.out]; exact hlt)⟩
      obtain ⟨g, rfl, hg, c0, c1, c2⟩ := hat k r hr
      have hk0 : (0 : Int) ≤ (k : Int) := Int.natCast_nonneg _
      have hk1 : (k : Int) < (n : Int) := by omega
      rcases e1 : (r.ac == a) with _ | _
      · have HM : Hid (hitR d a r = false) := by rw [Hid]; unfold hitR; rw [e1]; rfl
        go_wp2_with fail
        go_round
        case rel =>
          refine ⟨k + 1, by omega, by go_num, fun i q hi hq => ?_⟩
          by_cases e : i = k
          · subst e; rw [hr] at hq; injection hq with hq; subst hq; exact HM.out
          · exact HNO.out i q (by omega) hq
        case measure => simp [intOf]; omega
      · rcases e2 : (r.den == d) with _ | _
        · have HM : Hid (hitR d a r = false) := by rw [Hid]; unfold hitR; rw [e1, e2]; rfl
          go_wp2_with fail
          go_round
          case rel =>
            refine ⟨k + 1, by omega, by go_num, fun i q hi hq => ?_⟩
            by_cases e : i = k
            · subst e; rw [hr] at hq; injection hq with hq; subst hq; exact HM.out
            · exact HNO.out i q (by omega) hq
          case measure => simp [intOf]; omega
        · have HM : Hid (rBal d a l = r.n) := by
            rw [Hid, rBal_skip HNO.out, rBal_at hr (by unfold hitR; rw [e1, e2]; rfl)]
          go_wp2_with fail
          go_ret
          exact ⟨by rw [HM.out]; rfl, rfl⟩
    · obtain rfl : k = n := by omega
      have HM : Hid (rBal d a l = 0) := by
        rw [Hid, rBal_skip HNO.out, List.drop_eq_nil_of_le (by rw [hn.out]; omega)]; rfl
      go_wp2_with fail
      go_ret
      exact ⟨by rw [HM.out]; rfl, rfl⟩
set_option maxHeartbeats 1000000 in
theorem rSup_any (w0 : World) (b : Nat) (v : Value) (l : List Rw) (d : List UInt8) (h63 : l.length ≤ 1000000) (hs : rSup d l < 18446744073709551616) (w : World) (h : Rb w0 w b v l) :
    Calls Try.prog 33 #[.pointer (some ⟨b, 0, none⟩), .string ⟨d.toArray⟩] w fun e w' => e = .returned (.int .u64 (rSup d l : Nat)) ∧ w = w' := by
  have hc := h.cell.1
  obtain ⟨ao, cap, rfl, hat⟩ := h.shape
  obtain ⟨n, hn⟩ : ∃ n, Hid (l.length = n) := ⟨_, rfl⟩
  rw [hn.out] at hc h63
  clear h
  go_enter Try.func33, Try.ntmps33
  go_wp2_with fail
  go_loop [5, 6] (fun t i => ∃ k : Nat, k ≤ n ∧ i = .int .i64 k ∧ t = .int .u64 (rSup d (l.take k) : Nat)) (fun _ i => n - (intOf i).toNat)
  case atStart => exact ⟨0, Nat.zero_le _, rfl, rfl⟩
  case round =>
    obtain ⟨k, hk, rfl, rfl⟩ := hrel
    by_cases hlt : k < n
    · obtain ⟨r, hr⟩ : ∃ r, l[k]? = some r := ⟨_, List.getElem?_eq_getElem (by rw [hn.out]; exact hlt)⟩
      obtain ⟨g, rfl, hg, c0, c1, c2⟩ := hat k r hr
      have hk0 : (0 : Int) ≤ (k : Int) := Int.natCast_nonneg _
      have hk1 : (k : Int) < (n : Int) := by omega
      have hle := rSup_take_le d l (k + 1)
      have HT := Lib.hid (rSup_take d hr)
      rw [HT.out] at hle
      rcases e2 : (r.den == d) with _ | _
      · rw [e2] at hle
        have HT2 : Hid (rSup d (l.take (k + 1)) = rSup d (l.take k)) := by rw [Hid, HT.out, e2]; rfl
        clear HT hle
        go_wp2_with fail
        go_round
        case rel => exact ⟨k + 1, by omega, by go_num, by rw [HT2.out]⟩
        case measure => simp [intOf]; omega
      · rw [e2] at hle
        have HT2 : Hid (rSup d (l.take (k + 1)) = rSup d (l.take k) + r.n) := by rw [Hid, HT.out, e2]; rfl
        have hle2 : rSup d (l.take k) + r.n < 18446744073709551616 := by simp at hle; omega
        clear HT hle
        generalize rSup d (l.take k) = t at *
        have wu : IntKind.u64.wrap ((t : Int) + (r.n : Int)) = (t : Int) + (r.n : Int) := IntWalk.u64_in _ ⟨by omega, by omega⟩
        go_wp2_with fail
        go_round
        case rel => exact ⟨k + 1, by omega, by go_num, by rw [HT2.out]; simp⟩
        case measure => simp [intOf]; omega
    · obtain rfl : k = n := by omega
      have HT : Hid (rSup d (l.take k) = rSup d l) := by rw [Hid, List.take_of_length_le (by rw [hn.out]; omega)]
      go_wp2_with fail
      go_ret
      exact ⟨by rw [HT.out]; rfl, rfl⟩
set_option maxHeartbeats 1000000 in
theorem rWrong_any (a d : List UInt8) (v : Nat) (w : World) :
    Calls Try.prog 62 #[.string ⟨a.toArray⟩, .string ⟨d.toArray⟩, .int .u64 v] w fun e w' => e = .returned (.int .i64 (chkE v d [a])) ∧ w = w' := by
  have HO : Hid (chkE v d [a] = if okN d 128 && okN a 32 then (if v = 0 then 1 else 0) else 100) := by
    rw [Hid]; unfold chkE; simp
  generalize chkE v d [a] = out at *
  by_cases h1 : (a.length : Int) < 1
  · have HO2 : Hid (out = 100) := by rw [Hid, HO.out, if_neg]; unfold okN; simp; omega
    go_enter Try.func62, Try.ntmps62
    go_wp2_with fail
    go_ret
    exact ⟨by rw [HO2.out]; rfl, rfl⟩
  · by_cases h2 : (32 : Int) < (a.length : Int)
    · have HO2 : Hid (out = 100) := by rw [Hid, HO.out, if_neg]; unfold okN; simp; omega
      go_enter Try.func62, Try.ntmps62
      go_wp2_with fail
      go_ret
      exact ⟨by rw [HO2.out]; rfl, rfl⟩
    · by_cases h3 : (d.length : Int) < 1
      · have HO2 : Hid (out = 100) := by rw [Hid, HO.out, if_neg]; unfold okN; simp; omega
        go_enter Try.func62, Try.ntmps62
        go_wp2_with fail
        go_ret
        exact ⟨by rw [HO2.out]; rfl, rfl⟩
      · by_cases h4 : (128 : Int) < (d.length : Int)
        · have HO2 : Hid (out = 100) := by rw [Hid, HO.out, if_neg]; unfold okN; simp; omega
          go_enter Try.func62, Try.ntmps62
          go_wp2_with fail
          go_ret
          exact ⟨by rw [HO2.out]; rfl, rfl⟩
        · have hok : (okN d 128 && okN a 32) = true := by unfold okN; simp; omega
          by_cases h5 : v = 0
          · have HO2 : Hid (out = 1) := by rw [Hid, HO.out, if_pos hok, if_pos h5]
            subst h5
            clear HO hok
            go_enter Try.func62, Try.ntmps62
            go_wp2_with fail
            go_ret
            exact ⟨by rw [HO2.out]; rfl, rfl⟩
          · have HO2 : Hid (out = 0) := by rw [Hid, HO.out, if_pos hok, if_neg h5]
            have e5 : ((v : Int) == 0) = false := by simp [h5]
            clear HO hok
            go_enter Try.func62, Try.ntmps62
            go_wp2_with fail
            go_ret
            exact ⟨by rw [HO2.out]; rfl, rfl⟩
end Go.Proofs.Ytcldbipipehedaa
