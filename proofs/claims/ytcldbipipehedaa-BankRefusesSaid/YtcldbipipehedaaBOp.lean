/-
  The opening of the bank's statements: a bank made, with all blocks of cells kept; acts in memory.
-/
import Derived.Test.YtcldbipipehedaaAwb
import Derived.Test.YtcldbipipehedaaSum
import Derived.Deep.CutBlock
import Derived.Deep.DeepCutAuto
import Derived.Deep.RegionHeld3
import Derived.Deep.DrawnRows
import Derived.Deep.RegionWith
namespace Go.Proofs.Ytcldbipipehedaa
open Go.RowKit Go.ChangeMaps
theorem sgNewC {w0 w : World} (n0 : New w0 w) :
    Calls Try.prog 19 #[] w fun e w' => ∃ a, e = .returned (.pointer (some ⟨a, 0, none⟩)) ∧ Sg w0 w' a 0 emptyB ∧ KC w w' :=
  (newB_any w).mono fun _ _ ⟨he, hb, k⟩ => ⟨_, he, ⟨_, _, hb, n0.then k (fun _ h => h.elim), by have := n0.size; omega, n0.size, by have := n0.size; omega⟩, KC.of_new k⟩
theorem aB.kc {w w' : World} {q : Nat} {x : A10} (h : aB w q x) (k : KC w w') : aB w' q x := k _ _ _ _ h
end Go.Proofs.Ytcldbipipehedaa
