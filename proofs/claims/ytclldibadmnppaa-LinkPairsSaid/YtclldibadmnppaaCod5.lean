/-
  WALKS: voussoirlaw02's own: pick, Laid, few, awake.
-/
import Derived.Test.YtclldibadmnppaaCod4
namespace Go.Proofs.Ytclldibadmnppaa
open Go.RowKit

/-- an item: a text or not, a number, a text -/
structure It where
  isT : Bool
  n : Nat
  s : List UInt8

/-- what an item is laid as -/
def It.lay (x : It) : List UInt8 := if x.isT then be 4 x.s.length ++ x.s else be 8 x.n
def lays (l : List It) : List UInt8 := l.flatMap It.lay
theorem lays_nil : lays [] = [] := rfl
theorem lays_append (a b : List It) : lays (a ++ b) = lays a ++ lays b := by simp [lays]
theorem lays_one (x : It) : lays [x] = x.lay := by simp [lays]
theorem It.lay_length (x : It) : x.lay.length = if x.isT then 4 + x.s.length else 8 := by
  unfold It.lay
  split <;> simp [be_length]

/-- the items lie in memory from an address on -/
def Items (w : World) (a : Option Addr) (l : List It) : Prop :=
  ∀ i x, l[i]? = some x → ∃ b o, a = some ⟨b, o, none⟩ ∧ b < w.heap.size ∧ U64 x.n ∧
    w.cell? ⟨b, o + i * 3, none⟩ = some (.bool x.isT) ∧ w.cell? ⟨b, o + i * 3 + 1, none⟩ = some (.int .u64 x.n) ∧ w.cell? ⟨b, o + i * 3 + 2, none⟩ = some (.string ⟨x.s.toArray⟩)

theorem Items.keep {w w' : World} {S : Nat → Prop} {a : Option Addr} {l : List It} (h : Items w a l) (k : Keeps S w w') (hS : ∀ b o, a = some ⟨b, o, none⟩ → ¬ S b) : Items w' a l := by
  intro i x hx
  obtain ⟨b, o, ha, hb, hu, h0, h1, h2⟩ := h i x hx
  have hn := hS b o ha
  exact ⟨b, o, ha, Nat.lt_of_lt_of_le hb k.size, hu, by rw [k.cell (by exact hb) hn]; exact h0, by rw [k.cell (by exact hb) hn]; exact h1, by rw [k.cell (by exact hb) hn]; exact h2⟩

/-- a Writer of one's own goes on: nothing old turns -/
theorem wr_new {w wr w2 : World} {v v2 : Value} (kw : New w wr) (hv : ∀ g, v.ownBlock = some g → w.heap.size ≤ g) (k2 : Keeps (Wrs w.heap.size v) wr w2) (m2 : Moved wr w2 v v2) :
    New w w2 ∧ ∀ g, v2.ownBlock = some g → w.heap.size ≤ g := by
  refine ⟨kw.then k2 ?_, ?_⟩
  · rintro k (rfl | e)
    · exact .inr (Nat.le_refl _)
    · exact .inr (hv k e.symm)
  · intro g hg
    rcases m2 with e | ⟨g', e, h1, _⟩
    · exact hv g (e.symm.trans hg)
    · rw [e] at hg
      cases hg
      exact Nat.le_trans kw.size h1

set_option maxHeartbeats 1000000 in
theorem laid_any (a : Option Addr) (len cap : Nat) (l : List It) (w : World) (hlen : l.length = len) (h63 : len ≤ 9223372036854775807) (hl : (lays l).length ≤ 140737488355328) (h : Items w a l) :
    Calls Try.prog 28 #[.slice a len cap] w fun e w' => e = .returned (.string ⟨(lays l).toArray⟩) ∧ New w w' := by
  go_enter Try.func28, Try.ntmps28
  go_wp2_with fail
  refine (newWriter_any w).mono ?_
  rintro e w1 ⟨rfl, hw1, k1⟩
  go_wp2_with fail
  go_loopw [4] (fun i wr => ∃ (k : Nat) (v : Value), k ≤ len ∧ i = .int .i64 k ∧ Wr wr w.heap.size v (lays (l.take k)) ∧ New w wr ∧ (∀ g, v.ownBlock = some g → w.heap.size ≤ g))
    (fun i _ => len - (intOf i).toNat)
  case atStart => exact ⟨0, _, Nat.zero_le _, rfl, hw1, k1, by intro g hg; simp [Value.ownBlock] at hg⟩
  case round =>
    obtain ⟨k, v, hk, rfl, hw, kw, hv⟩ := hrel
    by_cases hlt : k < len
    · have hkl : k < l.length := by omega
      obtain ⟨b, o, ha, hb, hu, c0, c1, c2⟩ := (h.keep kw (fun _ _ _ h => h)) k l[k] (List.getElem?_eq_getElem hkl)
      have hbound : (lays (l.take k)).length + (l[k]).lay.length ≤ 140737488355328 := by
        have e : lays (l.take (k + 1)) = lays (l.take k) ++ (l[k]).lay := by rw [List.take_succ_eq_append_getElem hkl, lays_append, lays_one]
        have e2 : l = l.take (k + 1) ++ l.drop (k + 1) := (List.take_append_drop _ _).symm
        have e3 : (lays l).length = (lays (l.take (k + 1))).length + (lays (l.drop (k + 1))).length := by
          conv => lhs; rw [e2, lays_append]
          rw [List.length_append]
        rw [e, List.length_append] at e3
        omega
      have hnext : lays (l.take (k + 1)) = lays (l.take k) ++ (l[k]).lay := by rw [List.take_succ_eq_append_getElem hkl, lays_append, lays_one]
      rw [It.lay_length] at hbound
      have HN := Lib.hid hnext
      clear hnext
      subst ha
      generalize l[k] = x at *
      obtain ⟨t, n, s⟩ := x
      have hwb := kw.size
      have hlt2 := hw.lt
      cases t
      · simp only [Bool.false_eq_true, if_false] at hbound
        have HN2 : Hid (lays (l.take (k + 1)) = lays (l.take k) ++ be 8 n) := HN
        go_wp2_with fail
        refine (num_any w.heap.size v (lays (l.take k)) n wr hbound hw).mono ?_
        rintro e w2 ⟨rfl, v2, hw2, k2, m2⟩
        have HF := wr_new kw hv k2 m2
        go_wp2_with fail
        go_roundw
        case rel => exact ⟨k + 1, v2, by omega, by go_num, by rw [HN2.out]; exact hw2, HF⟩
        case measure => simp [intOf]; omega
      · simp only [if_true] at hbound
        have HN2 : Hid (lays (l.take (k + 1)) = lays (l.take k) ++ (be 4 s.length ++ s)) := HN
        go_wp2_with fail
        refine (text_any w.heap.size v (lays (l.take k)) ⟨s.toArray⟩ wr (by simp [ByteArray.size]; omega) hw).mono ?_
        rintro e w2 ⟨rfl, v2, hw2, k2, m2⟩
        have HF := wr_new kw hv k2 m2
        go_wp2_with fail
        go_roundw
        case rel => exact ⟨k + 1, v2, by omega, by go_num, by rw [HN2.out]; exact hw2, HF⟩
        case measure => simp [intOf]; omega
    · obtain rfl : k = len := by omega
      have e : l.take k = l := by rw [← hlen]; exact List.take_length
      rw [e] at hw
      clear e
      go_wp2_with fail
      refine (bytes_any w.heap.size v (lays l) wr hw).mono ?_
      rintro e w2 ⟨rfl, k2⟩
      go_wp2_with fail
      go_ret
      exact ⟨rfl, kw.then k2 (fun _ h => .inl h)⟩
end Go.Proofs.Ytclldibadmnppaa
