/-
  WALKS: codec.lay, Writer.Num, Writer.Text, Writer.Bytes, NewWriter.
-/
import Derived.Test.YtcldbipipehedaaProg
import Derived.Test.YtcldbipipehedaaMath
import Derived.Test.YtcldbipipehedaaMem
import Derived.Handy
namespace Go.Proofs.Ytcldbipipehedaa
open Go.RowKit

theorem infoB : (Try.prog.info? 5).map (fun i => (i.zero, i.size, i.bytes)) = some (some (.int .u8 0), 1, 1) := by kernel_rfl

set_option maxHeartbeats 1000000 in
set_option maxRecDepth 100000 in
theorem lay_any (v : Value) (l : List UInt8) (n size : Nat) (w : World) (hs : size ≤ 8) (hl : l.length + size ≤ 140737488355328) (hown : w.ownsRow 0 5 1 v l.length (bytesV l)) :
    Calls Try.prog 96 #[v, .int .u64 n, .int .i64 size] w fun e w' => ∃ v', e = .returned v' ∧ w'.ownsRow 0 5 1 v' (l ++ be size n).length (bytesV (l ++ be size n)) ∧ w.grownBy w' v.ownBlock ∧
      (v'.ownBlock = v.ownBlock ∨ ∃ g, v'.ownBlock = some g ∧ w.heap.size ≤ g ∧ g < w'.heap.size) := by
  obtain ⟨i0, hi, hz0, hz1, hz2⟩ := info_parts infoB
  go_enter Try.func96, Try.ntmps96
  go_wp2
  go_loopw [0, 7] (fun bv at_ wr => ∃ k : Nat, k ≤ size ∧ at_ = .int .i64 (8 * ((size : Int) - 1) - 8 * (k : Int)) ∧ wr.ownsRow 0 5 1 bv (l ++ beTo size n k).length (bytesV (l ++ beTo size n k)) ∧ w.grownBy wr v.ownBlock ∧
      (bv.ownBlock = v.ownBlock ∨ ∃ g, bv.ownBlock = some g ∧ w.heap.size ≤ g ∧ g < wr.heap.size))
    (fun _ at_ _ => (intOf at_ + 8).toNat)
  case atStart => exact ⟨0, Nat.zero_le _, by simp, by simpa [beTo_zero] using hown, ⟨rfl, rfl, rfl, Nat.le_refl _, fun _ _ _ => rfl⟩, .inl rfl⟩
  case round =>
    obtain ⟨k, hk, rfl, hownr, hgr, hvr⟩ := hrel
    have hlen : (l ++ beTo size n k).length ≤ l.length + k := by rw [List.length_append, beTo_length]; omega
    by_cases hlt : k < size
    · go_wp2_with (at_builtin; go_loud (refine wpList_app _ rfl _ _ 114 114 rfl 0 5 i0 (.int .u8 0) 1 1 Try.underlying114 hi hz0 hz1 hz2 rfl _ _ _ rfl (hownr.alloc _) _ 1 _ rfl (Src.one wr Try.underlying114 _ rfl 5) ?c1 ?c2 (Nat.zero_le _) ?_))
      case c1 => unfold maxLen; omega
      case c2 => omega
      intro v' w1 hown' hgrow hv'
      have hg2 : w.grownBy w1 v.ownBlock := by
        have h0 : Keeps (fun j => some j = v.ownBlock) w wr := ⟨hgr.os, hgr.tape, hgr.output, hgr.size, hgr.block⟩
        have h1 := (h0.alloc (.cells #[Value.int .u8 ((n : Int) / 2 ^ (8 * (size - 1) - 8 * k) % 256)] 5)).grown hgrow (by
          intro j hj
          rcases hvr with e | ⟨g, e, hg, _⟩
          · left; rw [← e]; exact hj.symm
          · right; rw [e] at hj; cases hj; exact hg)
        exact ⟨h1.os, h1.tape, h1.output, h1.size, h1.block⟩
      have hb2 : v'.ownBlock = v.ownBlock ∨ ∃ g, v'.ownBlock = some g ∧ w.heap.size ≤ g ∧ g < w1.heap.size := by
        have hsz := hgr.size
        have hsz2 := hgrow.size
        simp only [World.size_alloc] at hsz2
        rcases hv' with e | ⟨e, hlt2⟩
        · rw [e]
          rcases hvr with e | ⟨g, e, hg, hg2⟩
          · exact .inl e
          · exact .inr ⟨g, e, hg, by omega⟩
        · exact .inr ⟨_, e, by first | omega | (simp; omega), hlt2⟩
      have hc2 : w1.ownsRow 0 5 1 v' (l ++ beTo size n (k + 1)).length (bytesV (l ++ beTo size n (k + 1))) := by
        rw [beTo_succ, ← List.append_assoc, List.length_append, bytesV_append]
        simpa [bytesV, byt_int size n k hlt] using hown'
      clear hown' hgrow hv' hownr hgr hvr
      go_wp2
      go_roundw
      case rel => exact ⟨k + 1, by omega, by go_num, hc2, hg2, hb2⟩
      case measure => simp [intOf]; omega
    · obtain rfl : k = size := by omega
      go_wp2
      go_ret
      exact ⟨_, rfl, hownr, hgr, hvr⟩

/-- block b is a Writer that has laid the bytes l; v: its slice -/
structure Wr (w : World) (b : Nat) (v : Value) (l : List UInt8) : Prop where
  blk : w.heap[b]? = some (.cells #[v] 119 (0, 0))
  own : w.ownsRow 0 5 1 v l.length (bytesV l)
  ne : v.ownBlock ≠ some b

/-- what a Writer's methods may turn -/
def Wrs (b : Nat) (v : Value) : Nat → Prop := fun k => k = b ∨ some k = v.ownBlock
/-- where its slice lies behind it: where it lay, or in a new block -/
def Moved (w w' : World) (v v' : Value) : Prop := v'.ownBlock = v.ownBlock ∨ ∃ g, v'.ownBlock = some g ∧ w.heap.size ≤ g ∧ g < w'.heap.size

theorem cell_blk {w : World} {b : Nat} {c : Array Value} {T : TypeId} {f : Nat × Nat} (h : w.heap[b]? = some (.cells c T f)) (i : Nat) : w.cell? ⟨b, i, none⟩ = c[i]? := by
  simp [World.cell?, h]
theorem frozen_blk {w : World} {b : Nat} {c : Array Value} {T : TypeId} (h : w.heap[b]? = some (.cells c T (0, 0))) (i : Nat) : w.frozen? ⟨b, i, none⟩ = false := by
  simp [World.frozen?, h]
theorem heap_setCell_blk {w : World} {b : Nat} {c : Array Value} {T : TypeId} {f : Nat × Nat} (h : w.heap[b]? = some (.cells c T f)) (i : Nat) (u : Value) : (w.setCell ⟨b, i, none⟩ u).heap[b]? = some (.cells (c.setIfInBounds i u) T f) := by
  simp [World.setCell, Array.getElem?_modify, h]

theorem newWriter_any (w : World) : Calls Try.prog 71 #[] w fun e w' => e = .returned (.pointer (some ⟨w.heap.size, 0, none⟩)) ∧ Wr w' w.heap.size (.slice none 0 0) [] ∧ New w w' := by
  go_enter Try.func71, Try.ntmps71
  go_wp2
  go_ret
  exact ⟨rfl, ⟨heap_alloc_new w _, World.ownsRow_nil _ _ _ _, by simp [Value.ownBlock]⟩, (Keeps.refl _ _).alloc _⟩

theorem Moved.trans {a b c : World} {x y z : Value} (h : Moved a b x y) (k : Moved b c y z) (hab : a.heap.size ≤ b.heap.size) (hbc : b.heap.size ≤ c.heap.size) : Moved a c x z := by
  rcases k with e | ⟨g, e, h1, h2⟩
  · rcases h with e' | ⟨g, e', h1, h2⟩
    · exact .inl (e.trans e')
    · exact .inr ⟨g, e.trans e', h1, by omega⟩
  · exact .inr ⟨g, e, by omega, h2⟩
theorem Moved.of_app {w w' : World} {v v' : Value} (h : v'.ownBlock = v.ownBlock ∨ v'.ownBlock = some w.heap.size ∧ w.heap.size < w'.heap.size) : Moved w w' v v' := by
  rcases h with h | ⟨h, h2⟩
  · exact .inl h
  · exact .inr ⟨_, h, Nat.le_refl _, h2⟩
theorem Moved.ne {w w' : World} {v v' : Value} {b : Nat} (h : Moved w w' v v') (hb : b < w.heap.size) (hn : v.ownBlock ≠ some b) : v'.ownBlock ≠ some b := by
  rcases h with e | ⟨g, e, hg, _⟩
  · rw [e]; exact hn
  · rw [e]; intro e2; cases e2; omega

theorem Wr.lt {w : World} {b : Nat} {v : Value} {l : List UInt8} (h : Wr w b v l) : b < w.heap.size := (Array.getElem?_eq_some_iff.1 h.blk).1
/-- the store of what was appended -/
theorem Wr.store {w w1 : World} {b : Nat} {v v1 : Value} {l l' : List UInt8} (hw : Wr w b v l) (hown1 : w1.ownsRow 0 5 1 v1 l'.length (bytesV l')) (hg : Keeps (fun k => some k = v.ownBlock) w w1) (hm : Moved w w1 v v1) :
    Wr (w1.setCell ⟨b, 0, none⟩ v1) b v1 l' ∧ Keeps (Wrs b v) w (w1.setCell ⟨b, 0, none⟩ v1) ∧ Moved w (w1.setCell ⟨b, 0, none⟩ v1) v v1 := by
  have hne := hm.ne hw.lt hw.ne
  have hb1 := hg.kept hw.blk (fun e => hw.ne e.symm)
  refine ⟨⟨by rw [heap_setCell_blk hb1]; simp, ?_, hne⟩, (hg.mono (fun j _ h => .inr h)).setCell (.inl (.inl rfl)) _, ?_⟩
  · refine Keeps.owns (S := fun k => k = b) (Keeps.setCell (S := fun k => k = b) (p := ⟨b, 0, none⟩) (Keeps.refl _ _) (.inl rfl) _) hown1 ?_
    rintro k hk rfl
    exact hne hk
  · simpa [Moved] using hm

set_option maxHeartbeats 1000000 in
theorem num_any (b : Nat) (v : Value) (l : List UInt8) (n : Nat) (w : World) (hl : l.length + 8 ≤ 140737488355328) (hw : Wr w b v l) :
    Calls Try.prog 73 #[.pointer (some ⟨b, 0, none⟩), .int .u64 n] w fun e w' => e = .returned (.tuple #[]) ∧ ∃ v', Wr w' b v' (l ++ be 8 n) ∧ Keeps (Wrs b v) w w' ∧ Moved w w' v v' := by
  have hc := cell_blk hw.blk 0
  simp only [List.getElem?_toArray, List.getElem?_cons_zero] at hc
  go_enter Try.func73, Try.ntmps73
  go_wp2_with fail
  refine (lay_any v l n 8 w (by omega) hl hw.own).mono ?_
  rintro e w1 ⟨v1, rfl, hown1, hg1, hv1⟩
  have hk1 : Keeps (fun k => some k = v.ownBlock) w w1 := ⟨hg1.os, hg1.tape, hg1.output, hg1.size, hg1.block⟩
  have hb1 := hk1.kept hw.blk (fun e => hw.ne e.symm)
  have hc1 := cell_blk hb1 0
  have hf1 := frozen_blk hb1 0
  simp only [List.getElem?_toArray, List.getElem?_cons_zero] at hc1
  obtain ⟨ao1, n1, cp1, rfl⟩ := ownsRow_shape hown1
  have H := hw.store hown1 hk1 hv1
  go_wp2_with fail
  go_end0
  exact ⟨rfl, _, H⟩

set_option maxHeartbeats 1000000 in
theorem text_any (b : Nat) (v : Value) (l : List UInt8) (s : ByteArray) (w : World) (hl : l.length + 4 + s.size ≤ 140737488355328) (hw : Wr w b v l) :
    Calls Try.prog 72 #[.pointer (some ⟨b, 0, none⟩), .string s] w fun e w' => e = .returned (.tuple #[]) ∧ ∃ v', Wr w' b v' (l ++ (be 4 s.size ++ s.data.toList)) ∧ Keeps (Wrs b v) w w' ∧ Moved w w' v v' := by
  obtain ⟨i0, hi, hz0, hz1, hz2⟩ := info_parts infoB
  have hc := cell_blk hw.blk 0
  simp only [List.getElem?_toArray, List.getElem?_cons_zero] at hc
  go_enter Try.func72, Try.ntmps72
  go_wp2_with fail
  refine (lay_any v l s.size 4 w (by omega) (by omega) hw.own).mono ?_
  rintro e w1 ⟨v1, rfl, hown1, hg1, hv1⟩
  have hk1 : Keeps (fun k => some k = v.ownBlock) w w1 := ⟨hg1.os, hg1.tape, hg1.output, hg1.size, hg1.block⟩
  have hlen : (l ++ be 4 s.size).length = l.length + 4 := by rw [List.length_append, be_length]
  have HL := Lib.hid hlen
  clear hlen
  go_wp2_with (at_builtin; go_loud (refine wpList_app _ rfl _ _ 114 9 rfl 0 5 i0 (.int .u8 0) 1 1 Try.underlying114 hi hz0 hz1 hz2 rfl _ _ _ rfl hown1 _ s.size _ rfl (Src.ofString w1 Try.underlying9 s) ?c1 ?c2 (Nat.zero_le _) ?_))
  case c1 => unfold maxLen; rw [HL.out]; omega
  case c2 => rw [HL.out]; omega
  intro v2 w2 hown2 hg2 hv2
  have hown3 : w2.ownsRow 0 5 1 v2 (l ++ (be 4 s.size ++ s.data.toList)).length (bytesV (l ++ (be 4 s.size ++ s.data.toList))) := by
    have e1 : s.data.toList.length = s.size := by rw [Array.length_toList]; rfl
    rw [← List.append_assoc, List.length_append, bytesV_append, e1, ← byteCells_eq, List.length_append]
    exact hown2
  have hk2 : Keeps (fun k => some k = v.ownBlock) w w2 := hk1.grown hg2 (by
    intro k hk
    rcases hv1 with e | ⟨g, e, hg, _⟩
    · left; rw [← e]; exact hk.symm
    · right; rw [e] at hk; cases hk; exact hg)
  have hm2 : Moved w w2 v v2 := Moved.trans hv1 (Moved.of_app hv2) hg1.size hg2.size
  have hb2 := hk2.kept hw.blk (fun e => hw.ne e.symm)
  have hc2 := cell_blk hb2 0
  have hf2 := frozen_blk hb2 0
  simp only [List.getElem?_toArray, List.getElem?_cons_zero] at hc2
  clear hown2 hg2 hv2
  obtain ⟨ao2, n2, cp2, rfl⟩ := ownsRow_shape hown3
  have H := hw.store hown3 hk2 hm2
  go_wp2_with fail
  go_end0
  exact ⟨rfl, _, H⟩

set_option maxHeartbeats 1000000 in
theorem bytes_any (b : Nat) (v : Value) (l : List UInt8) (w : World) (hw : Wr w b v l) :
    Calls Try.prog 74 #[.pointer (some ⟨b, 0, none⟩)] w fun e w' => e = .returned (.string ⟨l.toArray⟩) ∧ New w w' := by
  have hconv := conv_own 114 9 5 Try.underlying114 Try.underlying5 Try.underlying9 hw.own
  have hc := cell_blk hw.blk 0
  simp only [List.getElem?_toArray, List.getElem?_cons_zero] at hc
  obtain ⟨ao1, n1, cp1, rfl⟩ := ownsRow_shape hw.own
  go_enter Try.func74, Try.ntmps74
  go_wp2_with fail
  go_ret
  exact ⟨rfl, Keeps.refl _ _⟩
end Go.Proofs.Ytcldbipipehedaa
