/-
  WALKS: the document's bank: set, Mint, Burn, Send.
-/
import Derived.Test.YtcldbipipehedaaRfB
import Derived.Lib.SmallJoins
namespace Go.Proofs.Ytcldbipipehedaa
open Go.RowKit Go.ChangeMaps
theorem info_row : (Try.prog.info? 95).map (fun i => (i.zero, i.size, i.bytes)) = some (some (.agg #[.string ⟨#[]⟩, .string ⟨#[]⟩, .int .u64 0]), 3, 40) := by kernel_rfl
theorem info_partsR : ∃ i, Try.prog.info? 95 = some i ∧ i.zero = some (.agg #[.string ⟨#[]⟩, .string ⟨#[]⟩, .int .u64 0]) ∧ i.size = 3 ∧ i.bytes = 40 := by
  have h := info_row
  cases e : Try.prog.info? 95 with
  | none => rw [e] at h; cases h
  | some i => rw [e] at h; simp at h; exact ⟨i, rfl, h.1, h.2.1, h.2.2⟩
/-- one row, laid in a block of its own, as a source -/
theorem src_row (w : World) (x : Rw) (T : TypeId) : Src Try.prog 3 84 (.slice (some ⟨w.heap.size, 0, none⟩) 1 1) 1 (rwV x) (w.alloc (.cells (rwV x).toArray T)) := by
  refine Src.ofSlice _ Try.underlying84 ⟨w.heap.size, 0, none⟩ 1 1 (rwV x) rfl (fun j u hj => ?_) (fun u hu => ?_)
  · rw [Addr.add_lit, cell_blk (heap_alloc_new w _)]
    simpa using hj
  · have := flatR_one [x] u
    simp only [flatR, List.append_nil] at this
    exact this hu
theorem Rb.at {w0 w : World} {b : Nat} {ao : Option Addr} {n cap : Nat} {l : List Rw} (h : Rb w0 w b (.slice ao n cap) l) {i : Nat} {r : Rw} (hi : l[i]? = some r) : ∃ g, ao = some ⟨g, 0, none⟩ ∧ g < w.heap.size ∧
    w.cell? ⟨g, i * 3, none⟩ = some (.string ⟨r.ac.toArray⟩) ∧ w.cell? ⟨g, i * 3 + 1, none⟩ = some (.string ⟨r.den.toArray⟩) ∧ w.cell? ⟨g, i * 3 + 2, none⟩ = some (.int .u64 (r.n : Nat)) := by
  obtain ⟨a, c, e, h1⟩ := h.shape
  cases e
  exact h1 i r hi
/-- the row as it stands at one moment of set -/
def Rrow (w0 w : World) (v : Value) (l : List Rw) : Prop := w.ownsRow w0.heap.size 95 3 v l.length (flatR l)
theorem Rrow.snoc {w0 w : World} {v : Value} {l : List Rw} {x : Rw} {n : Nat} {xs : List Value} (h : w.ownsRow w0.heap.size 95 3 v n xs) (hn : n = l.length + 1) (hx : xs = flatR l ++ rwV x) : Rrow w0 w v (l ++ [x]) := by
  unfold Rrow
  rw [flatR_app, List.length_append]
  subst hn; subst hx
  simpa [flatR] using h
theorem own_form {w : World} {base : Nat} {e : TypeId} {size : Nat} {v : Value} {n : Nat} {xs : List Value} (h : w.ownsRow base e size v n xs) : ∃ a cap, v = .slice a n cap := by
  rcases h.2 with ⟨rfl, rfl⟩ | ⟨g, cap, cur, rfl, rest⟩
  · exact ⟨none, 0, rfl⟩
  · exact ⟨some ⟨g, 0, none⟩, cap, rfl⟩
theorem New.ownGrown {w0 w w' : World} {e : TypeId} {size n : Nat} {v : Value} {xs : List Value} (k : New w0 w) (h : w.ownsRow w0.heap.size e size v n xs) (hg : w.grownBy w' v.ownBlock) : New w0 w' :=
  k.grown hg (fun j hj => .inr (World.ownsRow.lt h j hj).1)
set_option maxHeartbeats 4000000 in
set_option maxRecDepth 100000 in
theorem rSetB (w0 : World) (b : Nat) (v : Value) (l : List Rw) (d a : List UInt8) (x : Nat) (h63 : l.length ≤ 1000000) (w : World) (hw0 : w0.heap.size ≤ w.heap.size) (h : Rb w0 w b v l) :
    Calls Try.prog 63 #[.pointer (some ⟨b, 0, none⟩), .string ⟨a.toArray⟩, .string ⟨d.toArray⟩, .int .u64 (x : Nat)] w fun e w' => e = .returned (.tuple #[]) ∧ ∃ v', Rb w0 w' b v' (rSet d a x l) ∧ Keeps (fun k => k = b) w w' := by
  obtain ⟨i0, hi, hz0, hz1, hz2⟩ := info_partsR
  obtain ⟨ao, cap, rfl, -⟩ := h.shape
  obtain ⟨n, hn⟩ : ∃ n, Hid (l.length = n) := ⟨_, rfl⟩
  rw [hn.out] at h h63
  have hb : b < w.heap.size := (Array.getElem?_eq_some_iff.1 h.blk).1
  have hge := h.ge
  have last : ∀ (wr : World) (v' : Value) (r : List Rw), New w wr → Rrow w wr v' r → Rb w0 (wr.setCell ⟨b, 0, none⟩ v') b v' r ∧ Keeps (fun k => k = b) w (wr.setCell ⟨b, 0, none⟩ v') := by
    intro wr v' r kw hr
    refine ⟨⟨(heap_setCell_blk (h.keep kw).blk 0 v').trans (by simp), ?_, hge⟩, kw.set1 b 0 v'⟩
    have hr2 : wr.ownsRow w0.heap.size 95 3 v' r.length (flatR r) := Joins.ownsRow_le hr hw0
    exact Keeps.owns ((Keeps.refl (fun k => k = b) wr).set1 0 v') hr2 (fun k hk e => by have := (World.ownsRow.lt hr k hk).1; omega)
  go_enter Try.func63, Try.ntmps63
  go_wp2_with fail
  go_loopw [8, 9] (fun v' i wr => ∃ k : Nat, k ≤ n ∧ i = .int .i64 k ∧ Rrow w wr v' (rKeep d a (l.take k)) ∧ New w wr) (fun _ i _ => n - (intOf i).toNat)
  case atStart => exact ⟨0, Nat.zero_le _, rfl, World.ownsRow_nil _ _ _ _, New.refl w⟩
  case round =>
    obtain ⟨k, hk, rfl, hr, kw⟩ := hrel
    have h1 := h.keep kw
    have hc := h1.cell.1
    have hwr := kw.size
    by_cases hlt : k < n
    · obtain ⟨r, hlr⟩ : ∃ r, l[k]? = some r := ⟨_, List.getElem?_eq_getElem (by rw [hn.out]; exact hlt)⟩
      obtain ⟨g, rfl, hg, c0, c1, c2⟩ := h1.at hlr
      have hk0 : (0 : Int) ≤ (k : Int) := Int.natCast_nonneg _
      have hk1 : (k : Int) < (n : Int) := by omega
      have HT := Lib.hid (rKeep_take d a hlr)
      have hlen : (rKeep d a (l.take k)).length ≤ k := by have := rKeep_len d a (l.take k); rw [List.length_take] at this; omega
      generalize rKeep d a (l.take k) = kp at *
      have app : ∀ (P : Prop), P → P := fun P h => h
      rcases e1 : (r.ac == a) with _ | _
      · have HM : Hid (rKeep d a (l.take (k + 1)) = kp ++ [r]) := by rw [Hid, HT.out]; unfold hitR; rw [e1]; rfl
        clear HT app
        have e1n : (r.ac != a) = true := by simp [bne, e1]
        go_wp2_with (at_builtin; go_loud (refine wpList_app _ rfl _ _ 84 84 rfl w.heap.size 95 i0 _ 3 40 Try.underlying84 hi hz0 hz1 hz2 rfl _ kp.length (flatR kp) rfl (World.ownsRow.alloc hr _) _ 1 _ rfl (src_row wr r 95) ?c1 ?c2 ?c3 ?_))
        case c1 => unfold maxLen; omega
        case c2 => omega
        case c3 => rw [World.size_alloc]; omega
        intro v2 w3 hown hg3 hb3
        have k3 : New w w3 := New.ownGrown (kw.alloc _) (World.ownsRow.alloc hr _) hg3
        have r3 : Rrow w w3 v2 (kp ++ [r]) := Rrow.snoc hown rfl rfl
        go_wp2_with fail
        go_roundw
        case rel => exact ⟨k + 1, by omega, by go_num, by rw [HM.out]; exact r3, k3⟩
        case measure => simp [intOf]; omega
      · rcases e2 : (r.den == d) with _ | _
        · have HM : Hid (rKeep d a (l.take (k + 1)) = kp ++ [r]) := by rw [Hid, HT.out]; unfold hitR; rw [e1, e2]; rfl
          clear HT app
          have e1n : (r.ac != a) = false := by simp [bne, e1]
          have e2n : (r.den != d) = true := by simp [bne, e2]
          go_wp2_with (at_builtin; go_loud (refine wpList_app _ rfl _ _ 84 84 rfl w.heap.size 95 i0 _ 3 40 Try.underlying84 hi hz0 hz1 hz2 rfl _ kp.length (flatR kp) rfl (World.ownsRow.alloc hr _) _ 1 _ rfl (src_row wr r 95) ?c1 ?c2 ?c3 ?_))
          case c1 => unfold maxLen; omega
          case c2 => omega
          case c3 => rw [World.size_alloc]; omega
          intro v2 w3 hown hg3 hb3
          have k3 : New w w3 := New.ownGrown (kw.alloc _) (World.ownsRow.alloc hr _) hg3
          have r3 : Rrow w w3 v2 (kp ++ [r]) := Rrow.snoc hown rfl rfl
          go_wp2_with fail
          go_roundw
          case rel => exact ⟨k + 1, by omega, by go_num, by rw [HM.out]; exact r3, k3⟩
          case measure => simp [intOf]; omega
        · have HM : Hid (rKeep d a (l.take (k + 1)) = kp) := by rw [Hid, HT.out]; unfold hitR; rw [e1, e2]; simp
          clear HT app
          have e1n : (r.ac != a) = false := by simp [bne, e1]
          have e2n : (r.den != d) = false := by simp [bne, e2]
          go_wp2_with fail
          go_roundw
          case rel => exact ⟨k + 1, by omega, by go_num, by rw [HM.out]; exact hr, kw⟩
          case measure => simp [intOf]; omega
    · obtain rfl : k = n := by omega
      have hlen := rKeep_len d a (l.take k)
      rw [List.length_take] at hlen
      have HT : Hid (rKeep d a (l.take k) = rKeep d a l) := by rw [Hid, List.take_of_length_le (by rw [hn.out]; omega)]
      have HS : Hid (rSet d a x l = rKeep d a (l.take k) ++ rNew d a x) := by rw [Hid, HT.out]; rfl
      generalize rKeep d a (l.take k) = kp at *
      have cf := h1.cell
      by_cases hx0 : 0 < x
      · have HS2 : Hid (rSet d a x l = kp ++ [⟨a, d, x⟩]) := by rw [Hid, HS.out]; unfold rNew; rw [if_pos hx0]
        have ex : decide ((0 : Int) < (x : Int)) = true := by simp; omega
        go_wp2_with (at_builtin; go_loud (refine wpList_app _ rfl _ _ 84 84 rfl w.heap.size 95 i0 _ 3 40 Try.underlying84 hi hz0 hz1 hz2 rfl _ kp.length (flatR kp) rfl (World.ownsRow.alloc hr _) _ 1 _ rfl (src_row wr ⟨a, d, x⟩ 95) ?c1 ?c2 ?c3 ?_))
        case c1 => unfold maxLen; omega
        case c2 => omega
        case c3 => rw [World.size_alloc]; omega
        intro v2 w3 hown hg3 hb3
        have k3 : New w w3 := New.ownGrown (kw.alloc _) (World.ownsRow.alloc hr _) hg3
        have r3 : Rrow w w3 v2 (kp ++ [⟨a, d, x⟩]) := Rrow.snoc hown rfl rfl
        obtain ⟨v2a, v2c, rfl⟩ := own_form r3
        have L := last w3 _ _ k3 r3
        have cg := (h.keep k3).cell
        go_wp2_with fail
        have ql : (kp ++ [(⟨a, d, x⟩ : Rw)]).length = kp.length + 1 := by simp
        rw [ql] at L
        go_end0
        exact ⟨rfl, _, by rw [HS2.out]; exact L.1, L.2⟩
      · have HS2 : Hid (rSet d a x l = kp) := by rw [Hid, HS.out]; unfold rNew; rw [if_neg hx0, List.append_nil]
        have ex : decide ((0 : Int) < (x : Int)) = false := by simp; omega
        obtain ⟨v2a, v2c, rfl⟩ := own_form hr
        have L := last wr _ _ kw hr
        go_wp2_with fail
        go_end0
        exact ⟨rfl, _, by rw [HS2.out]; exact L.1, L.2⟩
end Go.Proofs.Ytcldbipipehedaa
