/-
  THE BANK IN MEMORY: its two maps, what is read at an account and at a denomination, and what a store leaves. No walk here.
-/
import Derived.Test.YtcldbipipehedaaProg
import Derived.Test.YtcldbipipehedaaMath
import Derived.Test.YtcldbipipehedaaMem
import Derived.Test.YtcldbipipehedaaCod1
import Derived.WideKeyEntry
import Derived.DeepKeys4
import Derived.Maps.Own
import Derived.Maps.OwnOps
import Derived.Maps.OwnSet
import Derived.Handy
namespace Go.Proofs.Ytcldbipipehedaa
open Go.RowKit Go.MapKept Go.ChangeMaps
open Go.WideElems (Fit rd rg pl rd_key rd_val)
open Go.WideMaps (KeyLaw)
open Go.Maps (Keyed)

section
variable {H : Type} {P : Program} {w : World} {t k e : TypeId} {R : Value → Option (DataW H × List MemPlace)} {b : Nat} {es : Array MapEntry} {clock : Nat}
/-- 'm[k] += v' in two halves, and the look-up ahead of both and between them -/
theorem entry_all (K : KeyLaw P k) (ht : P.underlying t = some (.map k e)) {z : Value} (hz : ∀ u : World, (zeroValue e).run P u = .ok z u) (hb : w.heap[b]? = some (.map es clock)) (F : Fit P k R es clock)
    {key : Value} {kl : Lit} (hkey : keyOf P k key = some kl) :
    ∃ (v0 : Value) (st : Nat) (es1 : Array MapEntry) (clock1 : Nat), (Instr.mapEntry t (.map (some b)) key).run P w = .ok (.tuple #[v0, goInt st]) (setBlock w b (.map es1 clock1)) ∧
      (Instr.lookup t (.map (some b)) key false).run P w = .ok v0 w ∧
      (Instr.lookup t (.map (some b)) key false).run P (setBlock w b (.map es1 clock1)) = .ok v0 (setBlock w b (.map es1 clock1)) ∧
      ∀ (w2 : World) (val : Value), w2.heap[b]? = some (.map es1 clock1) → ∃ es' clock', (Instr.entryStore t (.map (some b)) (goInt st) val).run P w2 = .ok () (setBlock w2 b (.map es' clock')) ∧
        (Instr.mapUpdate t (.map (some b)) key val).run P w = .ok () (setBlock w b (.map es' clock')) := by
  obtain ⟨s1, s2, _⟩ := F.stamped
  rcases K.find w hkey es.toList F.keys with ⟨h1, h2⟩ | ⟨j, e0, h1, h2, h3⟩
  · have hb1 : (setBlock w b (.map (es.push ⟨key, z, clock⟩) (clock + 1))).heap[b]? = some (.map (es.push ⟨key, z, clock⟩) (clock + 1)) := heap_setBlock_same hb _
    have hlk : (Instr.lookup t (.map (some b)) key false).run P (setBlock w b (.map (es.push ⟨key, z, clock⟩) (clock + 1))) = .ok z (setBlock w b (.map (es.push ⟨key, z, clock⟩) (clock + 1))) := by
      have hks : ∀ x ∈ (es.push ⟨key, z, clock⟩).toList, ∃ l, keyOf P k x.key = some l := by
        intro x hx
        simp only [Array.toList_push, List.mem_append, List.mem_singleton] at hx
        rcases hx with hx | rfl
        · exact F.keys x hx
        · exact ⟨kl, hkey⟩
      rcases K.find (setBlock w b (.map (es.push ⟨key, z, clock⟩) (clock + 1))) hkey (es.push ⟨key, z, clock⟩).toList hks with ⟨g1, g2⟩ | ⟨j, e1, g1, g2, g3⟩
      · exact absurd rfl (g2 ⟨key, z, clock⟩ (by simp))
      · have hm : e1 ∈ (es.push ⟨key, z, clock⟩).toList := List.mem_of_getElem? g2
        simp only [Array.toList_push, List.mem_append, List.mem_singleton] at hm
        rcases hm with hm | rfl
        · exact absurd g3 (h2 e1 hm)
        · rw [Array.toList_push] at g1
          simp [Instr.lookup, run_underlying ht, MapKept.run_getObj_map hb1, K.check _ _ hkey, g1, Result.andThen]
    refine ⟨z, clock, es.push ⟨key, z, clock⟩, clock + 1, ?_, ?_, hlk, fun w2 val hw2 => ⟨es.push ⟨key, val, clock⟩, clock + 1, ?_, ?_⟩⟩
    · simp [Instr.mapEntry, run_underlying ht, MapKept.run_getObj_map hb, K.check w false hkey, h1, hz, MapKept.run_setObj_map _ hb, Result.andThen, setBlock]
    · simp [Instr.lookup, run_underlying ht, MapKept.run_getObj_map hb, K.check w _ hkey, h1, hz, Result.andThen]
    · have hidx : (es.push ⟨key, z, clock⟩).findIdx? (fun e => ((e.born : Nat) : Int) == ((clock : Nat) : Int)) = some es.size := by
        rw [WideElems.findIdx_arr]
        have := WideElems.findIdx_born (l := (es.push ⟨key, z, clock⟩).toList) (j := es.size) (e0 := ⟨key, z, clock⟩) (by
          simp only [Array.toList_push, List.map_append, List.map_cons, List.map_nil]
          refine List.nodup_append.2 ⟨s2, by simp, fun a ha c hc e1 => ?_⟩
          simp only [List.mem_singleton] at hc
          obtain ⟨x, hx, rfl⟩ := List.mem_map.1 ha
          have := s1 x hx
          omega) (by simp)
        exact this
      have hmod : (es.push ⟨key, z, clock⟩).modify es.size (fun e => { e with val := val }) = es.push ⟨key, val, clock⟩ := by
        apply Array.ext'
        rw [Array.toList_modify, Array.toList_push, Array.toList_push, ← Array.length_toList, WideElems.modify_last]
      simp [Instr.entryStore, MapKept.run_getObj_map hw2, asInt, asIntOf, goInt, hidx, hmod, MapKept.run_setObj_map _ hw2, Result.andThen, setBlock]
    · simp [Instr.mapUpdate, run_underlying ht, MapKept.run_getObj_map hb, K.check w false hkey, h1, MapKept.run_setObj_map _ hb, Result.andThen, setBlock]
  · have hj : es[j]? = some e0 := by simpa using h2
    have hsame : es.modify j (fun e => { e with key := key }) = es := by
      apply Array.ext'
      rw [Array.toList_modify, modify_eq_set _ _ _ _ h2]
      have : ({ e0 with key := key } : MapEntry) = e0 := by rw [← h3]
      rw [this]
      exact WideElems.set_self _ _ _ h2
    have hb1 : (setBlock w b (.map es clock)).heap[b]? = some (.map es clock) := heap_setBlock_same hb _
    have hlk : (Instr.lookup t (.map (some b)) key false).run P (setBlock w b (.map es clock)) = .ok e0.val (setBlock w b (.map es clock)) := by
      rcases K.find (setBlock w b (.map es clock)) hkey es.toList F.keys with ⟨g1, g2⟩ | ⟨j2, e1, g1, g2, g3⟩
      · exact absurd h3 (g2 e0 (List.mem_of_getElem? h2))
      · have hj2 : e1 = e0 := by
          by_cases hjj : j2 = j
          · subst hjj; rw [h2] at g2; exact (Option.some.inj g2).symm
          · exact absurd (g3.trans h3.symm) (WideElems.other_key F h2 g2 hjj)
        subst hj2
        simp [Instr.lookup, run_underlying ht, MapKept.run_getObj_map hb1, K.check _ _ hkey, g1, Result.andThen]
    refine ⟨e0.val, e0.born, es, clock, ?_, ?_, hlk, fun w2 val hw2 => ⟨es.modify j (fun e' => { e' with key := key, val := val }), clock, ?_, ?_⟩⟩
    · simp [Instr.mapEntry, run_underlying ht, MapKept.run_getObj_map hb, K.check w false hkey, h1, hj, h3, K.stays w hkey, hsame, MapKept.run_setObj_map _ hb, Result.andThen, setBlock]
    · simp [Instr.lookup, run_underlying ht, MapKept.run_getObj_map hb, K.check w _ hkey, h1, Result.andThen]
    · have hidx : es.findIdx? (fun e => ((e.born : Nat) : Int) == ((e0.born : Nat) : Int)) = some j := by
        rw [WideElems.findIdx_arr]
        exact WideElems.findIdx_born s2 h2
      have hmod : es.modify j (fun e => { e with val := val }) = es.modify j (fun e' => { e' with key := key, val := val }) := by
        apply Array.ext'
        rw [Array.toList_modify, Array.toList_modify, modify_eq_set _ _ _ _ h2, modify_eq_set _ _ _ _ h2, ← h3]
      simp [Instr.entryStore, MapKept.run_getObj_map hw2, asInt, asIntOf, goInt, hidx, hmod, MapKept.run_setObj_map _ hw2, Result.andThen, setBlock]
    · simp [Instr.mapUpdate, run_underlying ht, MapKept.run_getObj_map hb, K.check w false hkey, h1, hj, h3, K.stays w hkey, MapKept.run_setObj_map _ hb, Result.andThen, setBlock]
end

theorem setBlock_twice (w : World) (b : Nat) (o o' : Obj) : setBlock (setBlock w b o) b o' = setBlock w b o' := by
  unfold setBlock; simp

/-! the bank's maps -/
theorem laidOut1 : laidOutB Try.prog = true := by kernel_rfl
theorem rowPl : 91 < Try.prog.types.size := of_decide_eq_true (by kernel_rfl)
theorem widePl : (match Try.prog.underlying 91 with | some (.array _ _) | some (.struct _) => true | _ => false) = true := by kernel_rfl
theorem ktPl : Try.prog.keyTypeAt 2 91 = true := by kernel_rfl
set_option maxRecDepth 100000 in
theorem lawP : KeyLaw Try.prog 91 := deep_law_laid laidOut1 (m := 2) (by omega) rowPl ktPl widePl
theorem lawS : KeyLaw Try.prog 9 := WideMaps.string_law Try.underlying9
set_option maxRecDepth 100000 in
theorem zeroU (w : World) : (zeroValue 22).run Try.prog w = .ok (.int .u64 0) w := by kernel_rfl
/-- a place's key -/
def plV (d a : List UInt8) : Value := .agg #[.string ⟨d.toArray⟩, .string ⟨a.toArray⟩]
theorem ktP : Try.prog.keyType 91 = true := by kernel_rfl
theorem coP : Try.prog.cellsOf 91 = 2 := by kernel_rfl
theorem coS : Try.prog.cellsOf 9 = 1 := by kernel_rfl
theorem litS (m : Nat) (v : Value) (l : List Lit) : Try.prog.keyLits (m + 1) 9 [v] = some l → ∃ x : List UInt8, v = .string ⟨x.toArray⟩ ∧ x.length ≤ maxLen ∧ l = [.string x] := by
  intro h
  unfold Program.keyLits at h
  simp only [Try.underlying9] at h
  cases v <;> simp at h
  rename_i s
  exact ⟨s.data.toList, congrArg _ (str_mk s), by rw [Array.length_toList]; exact h.1, h.2.symm⟩
theorem litS_mk (m : Nat) (x : List UInt8) (h : x.length ≤ maxLen) : Try.prog.keyLits (m + 1) 9 [.string ⟨x.toArray⟩] = some [.string x] := by
  unfold Program.keyLits
  simp only [Try.underlying9]
  simp [ByteArray.size, h]
set_option maxRecDepth 100000 in
theorem keyPl (d a : List UInt8) (hd : d.length ≤ maxLen) (ha : a.length ≤ maxLen) : ∃ kl, keyOf Try.prog 91 (plV d a) = some kl := by
  obtain ⟨m, hm⟩ : ∃ m, Try.prog.types.size = m + 1 := ⟨Try.prog.types.size - 1, by have := rowPl; omega⟩
  unfold keyOf
  rw [Try.underlying91]
  have hf : (plV d a).formed Try.prog 91 = true := by
    unfold plV Value.formed; rw [Try.underlying91]; simp [coP]
  simp only [ktP, hf, Bool.and_self, if_true]
  rw [hm]
  unfold Program.keyLits
  simp only [Try.underlying91]
  simp [plV, Value.cells, coP, coS, litS_mk m _ hd, litS_mk m _ ha]
set_option maxRecDepth 100000 in
theorem keyPl_inv {v : Value} {kl : Lit} (h : keyOf Try.prog 91 v = some kl) : ∃ d a : List UInt8, v = plV d a ∧ d.length ≤ maxLen ∧ a.length ≤ maxLen := by
  obtain ⟨m, hm⟩ : ∃ m, Try.prog.types.size = m + 1 := ⟨Try.prog.types.size - 1, by have := rowPl; omega⟩
  unfold keyOf at h
  rw [Try.underlying91] at h
  simp only at h
  split at h
  · rename_i hc
    simp only [Bool.and_eq_true] at hc
    have hf := hc.2
    unfold Value.formed at hf
    rw [Try.underlying91] at hf
    cases v <;> simp at hf
    rename_i cs
    rw [coP] at hf
    obtain ⟨x, y, rfl⟩ : ∃ x y, cs = #[x, y] := by
      obtain ⟨l⟩ := cs
      match l, hf with
      | [x, y], _ => exact ⟨x, y, rfl⟩
    rw [hm] at h
    unfold Program.keyLits at h
    simp only [Try.underlying91] at h
    simp [Value.cells, coP, coS] at h
    rcases h0 : Try.prog.keyLits (m + 1) 9 [x] with _ | l0
    · rw [h0] at h; simp at h
    · rcases h1 : Try.prog.keyLits (m + 1) 9 [y] with _ | l1
      · rw [h0, h1] at h; simp at h
      · obtain ⟨d, rfl, hd, _⟩ := litS m x l0 h0
        obtain ⟨a, rfl, ha, _⟩ := litS m y l1 h1
        exact ⟨d, a, rfl, hd, ha⟩
  · cases h
end Go.Proofs.Ytcldbipipehedaa
