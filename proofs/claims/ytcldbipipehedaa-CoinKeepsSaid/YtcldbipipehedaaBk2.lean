/-
  THE BANK IN MEMORY: maps as functions; what is read, and what a store leaves. No walk here.
-/
import Derived.Test.YtcldbipipehedaaBk1
import Derived.IntWalk
namespace Go.Proofs.Ytcldbipipehedaa
open Go.RowKit Go.MapKept Go.ChangeMaps
open Go.WideElems (Fit rd rg pl rd_key rd_val)
open Go.WideMaps (KeyLaw)
open Go.Maps (Keyed)

def zU : DataW Unit := .lit (.int .u64 0)
theorem wfU {n : Nat} (h : U64 n) : (Lit.int .u64 (n : Int)).wf = true := by
  have := h.lt
  simp [Lit.wf, IntKind.min, IntKind.max, IntKind.signed, IntKind.bits]; omega
theorem unwfU {c : Int} (h : (Lit.int .u64 c).wf = true) : ∃ n : Nat, c = n ∧ U64 n := by
  have h2 : 0 ≤ c ∧ c ≤ 18446744073709551615 := by simpa [Lit.wf, IntKind.min, IntKind.max, IntKind.signed, IntKind.bits] using h
  exact ⟨c.toNat, by omega, by show _ < _; omega⟩
/-- a function, changed at one place -/
def upd2 (f : List UInt8 → List UInt8 → Nat) (d a : List UInt8) (v : Nat) : List UInt8 → List UInt8 → Nat := fun d' a' => if d' = d ∧ a' = a then v else f d' a'
def upd1 (f : List UInt8 → Nat) (d : List UInt8) (v : Nat) : List UInt8 → Nat := fun d' => if d' = d then v else f d'
/-- block b is a map of places that reads as f -/
def MapP (w : World) (b n : Nat) (f : List UInt8 → List UInt8 → Nat) : Prop :=
  ∃ D : DataW Unit, w.ownsMap Try.prog 91 (plainElem Try.prog 22) b n D ∧ (∀ d a kl, keyOf Try.prog 91 (plV d a) = some kl → D.atKey kl zU = .lit (.int .u64 (f d a))) ∧ ∀ d a, U64 (f d a)
def MapS (w : World) (b n : Nat) (f : List UInt8 → Nat) : Prop :=
  ∃ D : DataW Unit, w.ownsMap Try.prog 9 (plainElem Try.prog 22) b n D ∧ (∀ d, d.length ≤ maxLen → D.atKey (.string d) zU = .lit (.int .u64 (f d))) ∧ ∀ d, U64 (f d)
theorem owns_block {w w' : World} {k : TypeId} {b n : Nat} {D : DataW Unit} (h : w.ownsMap Try.prog k (plainElem Try.prog 22) b n D) (e : w'.heap[b]? = w.heap[b]?) : w'.ownsMap Try.prog k (plainElem Try.prog 22) b n D := by
  obtain ⟨es, clock, hb, r⟩ := h
  exact ⟨es, clock, e.trans hb, r⟩
theorem MapP.keepS {w w' : World} {S : Nat → Prop} {b n : Nat} {f : List UInt8 → List UInt8 → Nat} (h : MapP w b n f) (k : Keeps S w w') (hS : ¬ S b) : MapP w' b n f := by
  obtain ⟨D, h1, h2⟩ := h
  exact ⟨D, owns_block h1 (k.block b h1.lt hS), h2⟩
theorem MapS.keepS {w w' : World} {S : Nat → Prop} {b n : Nat} {f : List UInt8 → Nat} (h : MapS w b n f) (k : Keeps S w w') (hS : ¬ S b) : MapS w' b n f := by
  obtain ⟨D, h1, h2⟩ := h
  exact ⟨D, owns_block h1 (k.block b h1.lt hS), h2⟩
theorem MapP.drew {w : World} {b n : Nat} {f : List UInt8 → List UInt8 → Nat} (h : MapP w b n f) : MapP w.drew b n f := h
theorem MapS.drew {w : World} {b n : Nat} {f : List UInt8 → Nat} (h : MapS w b n f) : MapS w.drew b n f := h
theorem MapP.mono {w : World} {b n m : Nat} {f : List UInt8 → List UInt8 → Nat} (h : MapP w b n f) (hm : n ≤ m) : MapP w b m f := by
  obtain ⟨D, h1, h2⟩ := h
  exact ⟨D, h1.mono hm, h2⟩
theorem MapS.mono {w : World} {b n m : Nat} {f : List UInt8 → Nat} (h : MapS w b n f) (hm : n ≤ m) : MapS w b m f := by
  obtain ⟨D, h1, h2⟩ := h
  exact ⟨D, h1.mono hm, h2⟩
theorem MapP.lt {w : World} {b n : Nat} {f : List UInt8 → List UInt8 → Nat} (h : MapP w b n f) : b < w.heap.size := by obtain ⟨D, h1, h2⟩ := h; exact h1.lt
theorem MapS.lt {w : World} {b n : Nat} {f : List UInt8 → Nat} (h : MapS w b n f) : b < w.heap.size := by obtain ⟨D, h1, h2⟩ := h; exact h1.lt
theorem MapP.u64 {w : World} {b n : Nat} {f : List UInt8 → List UInt8 → Nat} (h : MapP w b n f) (d a : List UInt8) : U64 (f d a) := by obtain ⟨D, h1, h2, h3⟩ := h; exact h3 d a
theorem MapS.u64 {w : World} {b n : Nat} {f : List UInt8 → Nat} (h : MapS w b n f) (d : List UInt8) : U64 (f d) := by obtain ⟨D, h1, h2, h3⟩ := h; exact h3 d
theorem MapP.made (w : World) : MapP (w.alloc (.map #[] 0)) w.heap.size 0 (fun _ _ => 0) :=
  ⟨.map [], World.ownsMap_made _ _ _ _, fun _ _ _ _ => rfl, fun _ _ => by show (0 : Nat) < _; decide⟩
theorem MapS.made (w : World) : MapS (w.alloc (.map #[] 0)) w.heap.size 0 (fun _ => 0) :=
  ⟨.map [], World.ownsMap_made _ _ _ _, fun _ _ => rfl, fun _ => by show (0 : Nat) < _; decide⟩
theorem lit_inj {x y : Int} (h : (DataW.lit (.int .u64 x) : DataW Unit) = .lit (.int .u64 y)) : x = y := by injection h with h; injection h
theorem MapP.look {w : World} {b n : Nat} {f : List UInt8 → List UInt8 → Nat} (h : MapP w b n f) {d a : List UInt8} (hd : d.length ≤ maxLen) (ha : a.length ≤ maxLen) :
    (Instr.lookup 80 (.map (some b)) (plV d a) false).run Try.prog w = .ok (.int .u64 (f d a)) w := by
  obtain ⟨D, h1, h2, h3⟩ := h
  obtain ⟨kl, hk⟩ := keyPl d a hd ha
  obtain ⟨c, hrun, hat, _⟩ := h1.lookup_int (Keyed.of_law lawP) Try.underlying80 Try.underlying22 (zeroU w) hk
  rw [hrun, lit_inj ((h2 d a kl hk).symm.trans hat)]
theorem keyStr (d : List UInt8) (hd : d.length ≤ maxLen) : keyOf Try.prog 9 (.string ⟨d.toArray⟩) = some (.string d) := by
  rw [WideMaps.keyOf_string_mk Try.underlying9 (by simpa [ByteArray.size] using hd)]
theorem MapS.look {w : World} {b n : Nat} {f : List UInt8 → Nat} (h : MapS w b n f) {d : List UInt8} (hd : d.length ≤ maxLen) :
    (Instr.lookup 81 (.map (some b)) (.string ⟨d.toArray⟩) false).run Try.prog w = .ok (.int .u64 (f d)) w := by
  obtain ⟨D, h1, h2, h3⟩ := h
  obtain ⟨c, hrun, hat, _⟩ := h1.lookup_int (Keyed.of_law lawS) Try.underlying81 Try.underlying22 (zeroU w) (keyStr d hd)
  rw [hrun, lit_inj ((h2 d hd).symm.trans hat)]
/-- 'm[k] = v' -/
theorem MapS.put {w : World} {b n : Nat} {f : List UInt8 → Nat} (h : MapS w b n f) {d : List UInt8} (hd : d.length ≤ maxLen) {v : Nat} (hv : U64 v) (hn : n < maxLen) :
    ∃ w', (Instr.mapUpdate 81 (.map (some b)) (.string ⟨d.toArray⟩) (.int .u64 v)).run Try.prog w = .ok () w' ∧ MapS w' b (n + 1) (upd1 f d v) ∧ w.grownBy w' (some b) := by
  obtain ⟨D, h1, h2, h3⟩ := h
  obtain ⟨w', hrun, how, hg⟩ := h1.update (Keyed.of_law lawS) Try.underlying81 hn (keyStr d hd) (plainElem_int Try.underlying22 (wfU hv))
  refine ⟨w', hrun, ⟨_, how, fun d' hd' => ?_, fun d' => ?_⟩, hg⟩
  · unfold upd1
    split
    · rename_i e
      subst e
      exact Maps.atKey_put_same h1.isMap ((Keyed.of_law lawS).key (keyStr d' hd)) _ _
    · rename_i e
      rw [Maps.atKey_put_other (fun x => e (by injection x))]
      exact h2 d' hd'
  · unfold upd1
    split
    · exact hv
    · exact h3 d'
set_option maxRecDepth 100000 in
/-- 'm[k] += v' in its halves -/
theorem MapP.turn {w : World} {b n : Nat} {f : List UInt8 → List UInt8 → Nat} (h : MapP w b n f) {d a : List UInt8} (hd : d.length ≤ maxLen) (ha : a.length ≤ maxLen) (hn : n < maxLen) :
    ∃ (st : Nat) (o : Obj), (Instr.mapEntry 80 (.map (some b)) (plV d a)).run Try.prog w = .ok (.tuple #[.int .u64 (f d a), .int .i64 st]) (setBlock w b o) ∧
      (Instr.lookup 80 (.map (some b)) (plV d a) false).run Try.prog w = .ok (.int .u64 (f d a)) w ∧
      (Instr.lookup 80 (.map (some b)) (plV d a) false).run Try.prog (setBlock w b o) = .ok (.int .u64 (f d a)) (setBlock w b o) ∧
      ∀ v : Nat, U64 v → ∃ w', (Instr.entryStore 80 (.map (some b)) (.int .i64 st) (.int .u64 v)).run Try.prog (setBlock w b o) = .ok () w' ∧ MapP w' b (n + 1) (upd2 f d a v) ∧ w.grownBy w' (some b) := by
  have hlook := h.look hd ha
  obtain ⟨D, h1, h2, h3⟩ := h
  obtain ⟨kl, hk⟩ := keyPl d a hd ha
  obtain ⟨es, clock, hb, F, hs, hD⟩ := id h1
  obtain ⟨v0, st, es1, clock1, e1, e2, e3, e4⟩ := entry_all lawP Try.underlying80 zeroU hb F hk
  have hv0 : v0 = .int .u64 (f d a) := by
    exact (Result.ok.inj (hlook.symm.trans e2)).1.symm
  subst hv0
  refine ⟨st, .map es1 clock1, e1, hlook, e3, fun v hv => ?_⟩
  obtain ⟨es', clock', s1, s2⟩ := e4 (setBlock w b (.map es1 clock1)) (.int .u64 v) (heap_setBlock_same hb _)
  obtain ⟨w', hrun, how, hg⟩ := h1.update (Keyed.of_law lawP) Try.underlying80 hn hk (plainElem_int Try.underlying22 (wfU hv))
  rw [s2] at hrun
  injection hrun with _ hrun
  rw [setBlock_twice, hrun] at s1
  refine ⟨w', s1, ⟨_, how, fun d' a' kl' hk' => ?_, fun d' a' => ?_⟩, hg⟩
  · unfold upd2
    by_cases e : kl' = kl
    · subst e
      have hpl := lawP.inj hk' hk
      have hda : d' = d ∧ a' = a := by
        unfold plV at hpl
        simp at hpl
        exact hpl
      rw [if_pos hda]
      exact Maps.atKey_put_same h1.isMap ((Keyed.of_law lawP).key hk) _ _
    · rw [if_neg, Maps.atKey_put_other e]
      · exact h2 d' a' kl' hk'
      · rintro ⟨rfl, rfl⟩
        rw [hk] at hk'
        exact e (Option.some.inj hk').symm
  · unfold upd2
    split
    · exact hv
    · exact h3 d' a'
end Go.Proofs.Ytcldbipipehedaa
