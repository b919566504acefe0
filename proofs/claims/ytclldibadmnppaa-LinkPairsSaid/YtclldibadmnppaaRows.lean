/-
  No cell of these rows narrows 'for every input' (looked for: loops, veiled, ifaces, maps, wideKeys, modest, calm, conditions, laid).
  DERIVED. THE GIVEN ROWS OF THIS SEAT. 15 by the template 'for every input the law returns true; each argument reads behind the call as it read before'; 0 by the template 'total and deterministic' (their statements: YtclldibadmnppaaTotals.lean).
  GIVEN WITH THE SEED: the statements are not yours to turn. If you find one false, say at which input.
  Laid BY PROGRAM, IN A SANDBOX (cutbox-rows.mjs): the forced cells as the released guide's own fill.sh prints them over the translation 5c0b649953d28052… (all of the seat's roots in one cut). By AI agents, Wed Nov 11 2026. No macro, syntax, notation, axiom, sorry.
-/
import Derived.Test.YtclldibadmnppaaChecked
import GoSem.Claim
import GoSem.ClaimJoined
import GoSem.ClaimMapViews
import Derived.JoinedTies
import Derived.KernelRfl
namespace Go.Proofs.Ytclldibadmnppaa
/- THE CELL 'sum', in the pinned program and in every row, IS THE sha256 OF THE DUMP (.gsa) THAT YtclldibadmnppaaProg.lean LOADS. Nothing in Lean hashes anything: it is a label: what it is worth is what the hold of that sum in a sandbox is worth. -/
noncomputable def Try.pinned : Pinned := { name := "ytclldibadmnppaa", sum := "5c0b649953d280528cd229b999e207b5e8e6c474dd79b806939d9de271c25802", checked := Try.checked }
namespace Rows
def none {H : Type} : Left H := { results := [], args := [] }

/-- 'voussoirlaw17.LinkPairs': WHATEVER THE INPUT: true; the input reads as it did. -/
def linkPairsSpec : ChangeSpec := { name := "linkPairs", fn := fun _ => fun
  | [d] => { results := [.lit (.bool true)], args := [d] }
  | _ => none }
def linkPairsRow : OpenClaim := { program := "ytclldibadmnppaa", sum := "5c0b649953d280528cd229b999e207b5e8e6c474dd79b806939d9de271c25802", func := "voussoir/voussoirlaw17.LinkPairs", spec := "linkPairs", apart := false }
def LinkPairsSaid : Prop := linkPairsRow.holds Try.pinned (OpenSpec.ofChange linkPairsSpec)

/-- ITS FALSE NEIGHBOUR: 'it returns false'. Refute it at one input. -/
def linkPairsWrong : ChangeSpec := { name := "linkPairs", fn := fun _ => fun
  | [d] => { results := [.lit (.bool false)], args := [d] }
  | _ => none }
def LinkPairsWrongFalsely : Prop := linkPairsRow.holds Try.pinned (OpenSpec.ofChange linkPairsWrong)

/-- 'voussoirlaw17.LinkMirrors': WHATEVER THE INPUT: true; the input reads as it did. -/
def linkMirrorsSpec : ChangeSpec := { name := "linkMirrors", fn := fun _ => fun
  | [d1, d2, d3, d4] => { results := [.lit (.bool true)], args := [d1, d2, d3, d4] }
  | _ => none }
def linkMirrorsRow : OpenClaim := { program := "ytclldibadmnppaa", sum := "5c0b649953d280528cd229b999e207b5e8e6c474dd79b806939d9de271c25802", func := "voussoir/voussoirlaw17.LinkMirrors", spec := "linkMirrors", apart := false }
def LinkMirrorsSaid : Prop := linkMirrorsRow.holds Try.pinned (OpenSpec.ofChange linkMirrorsSpec)

/-- ITS FALSE NEIGHBOUR: 'it returns false'. Refute it at one input. -/
def linkMirrorsWrong : ChangeSpec := { name := "linkMirrors", fn := fun _ => fun
  | [d1, d2, d3, d4] => { results := [.lit (.bool false)], args := [d1, d2, d3, d4] }
  | _ => none }
def LinkMirrorsWrongFalsely : Prop := linkMirrorsRow.holds Try.pinned (OpenSpec.ofChange linkMirrorsWrong)

/-- 'voussoirlaw02.CodecLays': WHATEVER THE INPUT: true; the input reads as it did. -/
def codecLaysSpec : ChangeSpec := { name := "codecLays", fn := fun _ => fun
  | [d] => { results := [.lit (.bool true)], args := [d] }
  | _ => none }
def codecLaysRow : OpenClaim := { program := "ytclldibadmnppaa", sum := "5c0b649953d280528cd229b999e207b5e8e6c474dd79b806939d9de271c25802", func := "voussoir/voussoirlaw02.CodecLays", spec := "codecLays", apart := false }
def CodecLaysSaid : Prop := codecLaysRow.holds Try.pinned (OpenSpec.ofChange codecLaysSpec)

/-- ITS FALSE NEIGHBOUR: 'it returns false'. Refute it at one input. -/
def codecLaysWrong : ChangeSpec := { name := "codecLays", fn := fun _ => fun
  | [d] => { results := [.lit (.bool false)], args := [d] }
  | _ => none }
def CodecLaysWrongFalsely : Prop := codecLaysRow.holds Try.pinned (OpenSpec.ofChange codecLaysWrong)

/-- 'voussoirlaw02.CodecTakes': WHATEVER THE INPUT: true; the input reads as it did. -/
def codecTakesSpec : ChangeSpec := { name := "codecTakes", fn := fun _ => fun
  | [d1, d2] => { results := [.lit (.bool true)], args := [d1, d2] }
  | _ => none }
def codecTakesRow : OpenClaim := { program := "ytclldibadmnppaa", sum := "5c0b649953d280528cd229b999e207b5e8e6c474dd79b806939d9de271c25802", func := "voussoir/voussoirlaw02.CodecTakes", spec := "codecTakes", apart := false }
def CodecTakesSaid : Prop := codecTakesRow.holds Try.pinned (OpenSpec.ofChange codecTakesSpec)

/-- ITS FALSE NEIGHBOUR: 'it returns false'. Refute it at one input. -/
def codecTakesWrong : ChangeSpec := { name := "codecTakes", fn := fun _ => fun
  | [d1, d2] => { results := [.lit (.bool false)], args := [d1, d2] }
  | _ => none }
def CodecTakesWrongFalsely : Prop := codecTakesRow.holds Try.pinned (OpenSpec.ofChange codecTakesWrong)

/-- 'voussoirlaw02.CodecBack': WHATEVER THE INPUT: true; the input reads as it did. -/
def codecBackSpec : ChangeSpec := { name := "codecBack", fn := fun _ => fun
  | [d] => { results := [.lit (.bool true)], args := [d] }
  | _ => none }
def codecBackRow : OpenClaim := { program := "ytclldibadmnppaa", sum := "5c0b649953d280528cd229b999e207b5e8e6c474dd79b806939d9de271c25802", func := "voussoir/voussoirlaw02.CodecBack", spec := "codecBack", apart := false }
def CodecBackSaid : Prop := codecBackRow.holds Try.pinned (OpenSpec.ofChange codecBackSpec)

/-- ITS FALSE NEIGHBOUR: 'it returns false'. Refute it at one input. -/
def codecBackWrong : ChangeSpec := { name := "codecBack", fn := fun _ => fun
  | [d] => { results := [.lit (.bool false)], args := [d] }
  | _ => none }
def CodecBackWrongFalsely : Prop := codecBackRow.holds Try.pinned (OpenSpec.ofChange codecBackWrong)

/-- 'voussoirlaw02.CodecForth': WHATEVER THE INPUT: true; the input reads as it did. -/
def codecForthSpec : ChangeSpec := { name := "codecForth", fn := fun _ => fun
  | [d1, d2] => { results := [.lit (.bool true)], args := [d1, d2] }
  | _ => none }
def codecForthRow : OpenClaim := { program := "ytclldibadmnppaa", sum := "5c0b649953d280528cd229b999e207b5e8e6c474dd79b806939d9de271c25802", func := "voussoir/voussoirlaw02.CodecForth", spec := "codecForth", apart := false }
def CodecForthSaid : Prop := codecForthRow.holds Try.pinned (OpenSpec.ofChange codecForthSpec)

/-- ITS FALSE NEIGHBOUR: 'it returns false'. Refute it at one input. -/
def codecForthWrong : ChangeSpec := { name := "codecForth", fn := fun _ => fun
  | [d1, d2] => { results := [.lit (.bool false)], args := [d1, d2] }
  | _ => none }
def CodecForthWrongFalsely : Prop := codecForthRow.holds Try.pinned (OpenSpec.ofChange codecForthWrong)

/-- 'voussoirlaw02.CodecCuts': WHATEVER THE INPUT: true; the input reads as it did. -/
def codecCutsSpec : ChangeSpec := { name := "codecCuts", fn := fun _ => fun
  | [d1, d2] => { results := [.lit (.bool true)], args := [d1, d2] }
  | _ => none }
def codecCutsRow : OpenClaim := { program := "ytclldibadmnppaa", sum := "5c0b649953d280528cd229b999e207b5e8e6c474dd79b806939d9de271c25802", func := "voussoir/voussoirlaw02.CodecCuts", spec := "codecCuts", apart := false }
def CodecCutsSaid : Prop := codecCutsRow.holds Try.pinned (OpenSpec.ofChange codecCutsSpec)

/-- ITS FALSE NEIGHBOUR: 'it returns false'. Refute it at one input. -/
def codecCutsWrong : ChangeSpec := { name := "codecCuts", fn := fun _ => fun
  | [d1, d2] => { results := [.lit (.bool false)], args := [d1, d2] }
  | _ => none }
def CodecCutsWrongFalsely : Prop := codecCutsRow.holds Try.pinned (OpenSpec.ofChange codecCutsWrong)

/-- 'voussoirlaw02.CodecJoins': WHATEVER THE INPUT: true; the input reads as it did. -/
def codecJoinsSpec : ChangeSpec := { name := "codecJoins", fn := fun _ => fun
  | [d1, d2] => { results := [.lit (.bool true)], args := [d1, d2] }
  | _ => none }
def codecJoinsRow : OpenClaim := { program := "ytclldibadmnppaa", sum := "5c0b649953d280528cd229b999e207b5e8e6c474dd79b806939d9de271c25802", func := "voussoir/voussoirlaw02.CodecJoins", spec := "codecJoins", apart := false }
def CodecJoinsSaid : Prop := codecJoinsRow.holds Try.pinned (OpenSpec.ofChange codecJoinsSpec)

/-- ITS FALSE NEIGHBOUR: 'it returns false'. Refute it at one input. -/
def codecJoinsWrong : ChangeSpec := { name := "codecJoins", fn := fun _ => fun
  | [d1, d2] => { results := [.lit (.bool false)], args := [d1, d2] }
  | _ => none }
def CodecJoinsWrongFalsely : Prop := codecJoinsRow.holds Try.pinned (OpenSpec.ofChange codecJoinsWrong)

/-- 'voussoirlaw02.CodecLong': WHATEVER THE INPUT: true; the input reads as it did. -/
def codecLongSpec : ChangeSpec := { name := "codecLong", fn := fun _ => fun
  | [d] => { results := [.lit (.bool true)], args := [d] }
  | _ => none }
def codecLongRow : OpenClaim := { program := "ytclldibadmnppaa", sum := "5c0b649953d280528cd229b999e207b5e8e6c474dd79b806939d9de271c25802", func := "voussoir/voussoirlaw02.CodecLong", spec := "codecLong", apart := false }
def CodecLongSaid : Prop := codecLongRow.holds Try.pinned (OpenSpec.ofChange codecLongSpec)

/-- ITS FALSE NEIGHBOUR: 'it returns false'. Refute it at one input. -/
def codecLongWrong : ChangeSpec := { name := "codecLong", fn := fun _ => fun
  | [d] => { results := [.lit (.bool false)], args := [d] }
  | _ => none }
def CodecLongWrongFalsely : Prop := codecLongRow.holds Try.pinned (OpenSpec.ofChange codecLongWrong)

/-- 'voussoirtop.Names': WHATEVER THE INPUT: true; the input reads as it did. -/
def namesSpec : ChangeSpec := { name := "names", fn := fun _ => fun
  | [] => { results := [.lit (.bool true)], args := [] }
  | _ => none }
def namesRow : OpenClaim := { program := "ytclldibadmnppaa", sum := "5c0b649953d280528cd229b999e207b5e8e6c474dd79b806939d9de271c25802", func := "voussoir/voussoirtop.Names", spec := "names", apart := false }
def NamesSaid : Prop := namesRow.holds Try.pinned (OpenSpec.ofChange namesSpec)

/-- ITS FALSE NEIGHBOUR: 'it returns false'. Refute it at one input. -/
def namesWrong : ChangeSpec := { name := "names", fn := fun _ => fun
  | [] => { results := [.lit (.bool false)], args := [] }
  | _ => none }
def NamesWrongFalsely : Prop := namesRow.holds Try.pinned (OpenSpec.ofChange namesWrong)

/-- 'voussoirlaw02.CodecStays': WHATEVER THE INPUT: true; the input reads as it did. -/
def codecStaysSpec : ChangeSpec := { name := "codecStays", fn := fun _ => fun
  | [d1, d2] => { results := [.lit (.bool true)], args := [d1, d2] }
  | _ => none }
def codecStaysRow : OpenClaim := { program := "ytclldibadmnppaa", sum := "5c0b649953d280528cd229b999e207b5e8e6c474dd79b806939d9de271c25802", func := "voussoir/voussoirlaw02.CodecStays", spec := "codecStays", apart := false }
def CodecStaysSaid : Prop := codecStaysRow.holds Try.pinned (OpenSpec.ofChange codecStaysSpec)

/-- ITS FALSE NEIGHBOUR: 'it returns false'. Refute it at one input. -/
def codecStaysWrong : ChangeSpec := { name := "codecStays", fn := fun _ => fun
  | [d1, d2] => { results := [.lit (.bool false)], args := [d1, d2] }
  | _ => none }
def CodecStaysWrongFalsely : Prop := codecStaysRow.holds Try.pinned (OpenSpec.ofChange codecStaysWrong)

/-- 'voussoirlaw02.CodecOrder': WHATEVER THE INPUT: true; the input reads as it did. -/
def codecOrderSpec : ChangeSpec := { name := "codecOrder", fn := fun _ => fun
  | [d1, d2, d3, d4] => { results := [.lit (.bool true)], args := [d1, d2, d3, d4] }
  | _ => none }
def codecOrderRow : OpenClaim := { program := "ytclldibadmnppaa", sum := "5c0b649953d280528cd229b999e207b5e8e6c474dd79b806939d9de271c25802", func := "voussoir/voussoirlaw02.CodecOrder", spec := "codecOrder", apart := false }
def CodecOrderSaid : Prop := codecOrderRow.holds Try.pinned (OpenSpec.ofChange codecOrderSpec)

/-- ITS FALSE NEIGHBOUR: 'it returns false'. Refute it at one input. -/
def codecOrderWrong : ChangeSpec := { name := "codecOrder", fn := fun _ => fun
  | [d1, d2, d3, d4] => { results := [.lit (.bool false)], args := [d1, d2, d3, d4] }
  | _ => none }
def CodecOrderWrongFalsely : Prop := codecOrderRow.holds Try.pinned (OpenSpec.ofChange codecOrderWrong)

/-- 'voussoirlaw17.LinkTells': WHATEVER THE INPUT: true; the input reads as it did. -/
def linkTellsSpec : ChangeSpec := { name := "linkTells", fn := fun _ => fun
  | [d1, d2, d3, d4, d5] => { results := [.lit (.bool true)], args := [d1, d2, d3, d4, d5] }
  | _ => none }
def linkTellsRow : OpenClaim := { program := "ytclldibadmnppaa", sum := "5c0b649953d280528cd229b999e207b5e8e6c474dd79b806939d9de271c25802", func := "voussoir/voussoirlaw17.LinkTells", spec := "linkTells", apart := false }
def LinkTellsSaid : Prop := linkTellsRow.holds Try.pinned (OpenSpec.ofChange linkTellsSpec)

/-- ITS FALSE NEIGHBOUR: 'it returns false'. Refute it at one input. -/
def linkTellsWrong : ChangeSpec := { name := "linkTells", fn := fun _ => fun
  | [d1, d2, d3, d4, d5] => { results := [.lit (.bool false)], args := [d1, d2, d3, d4, d5] }
  | _ => none }
def LinkTellsWrongFalsely : Prop := linkTellsRow.holds Try.pinned (OpenSpec.ofChange linkTellsWrong)

/-- 'voussoirlaw17.LinkBack': WHATEVER THE INPUT: true; the input reads as it did. -/
def linkBackSpec : ChangeSpec := { name := "linkBack", fn := fun _ => fun
  | [d1, d2] => { results := [.lit (.bool true)], args := [d1, d2] }
  | _ => none }
def linkBackRow : OpenClaim := { program := "ytclldibadmnppaa", sum := "5c0b649953d280528cd229b999e207b5e8e6c474dd79b806939d9de271c25802", func := "voussoir/voussoirlaw17.LinkBack", spec := "linkBack", apart := false }
def LinkBackSaid : Prop := linkBackRow.holds Try.pinned (OpenSpec.ofChange linkBackSpec)

/-- ITS FALSE NEIGHBOUR: 'it returns false'. Refute it at one input. -/
def linkBackWrong : ChangeSpec := { name := "linkBack", fn := fun _ => fun
  | [d1, d2] => { results := [.lit (.bool false)], args := [d1, d2] }
  | _ => none }
def LinkBackWrongFalsely : Prop := linkBackRow.holds Try.pinned (OpenSpec.ofChange linkBackWrong)

/-- 'voussoirlaw17.LinkWhole': WHATEVER THE INPUT: true; the input reads as it did. -/
def linkWholeSpec : ChangeSpec := { name := "linkWhole", fn := fun _ => fun
  | [d1, d2, d3] => { results := [.lit (.bool true)], args := [d1, d2, d3] }
  | _ => none }
def linkWholeRow : OpenClaim := { program := "ytclldibadmnppaa", sum := "5c0b649953d280528cd229b999e207b5e8e6c474dd79b806939d9de271c25802", func := "voussoir/voussoirlaw17.LinkWhole", spec := "linkWhole", apart := false }
def LinkWholeSaid : Prop := linkWholeRow.holds Try.pinned (OpenSpec.ofChange linkWholeSpec)

/-- ITS FALSE NEIGHBOUR: 'it returns false'. Refute it at one input. -/
def linkWholeWrong : ChangeSpec := { name := "linkWhole", fn := fun _ => fun
  | [d1, d2, d3] => { results := [.lit (.bool false)], args := [d1, d2, d3] }
  | _ => none }
def LinkWholeWrongFalsely : Prop := linkWholeRow.holds Try.pinned (OpenSpec.ofChange linkWholeWrong)

/- THE SECOND FORM. 'bulk': how many values and letters a reading holds, each counted each time it is reached (what is shared counts as often as it is met; a slice's spare places count too). A statement '..UptoSaid' is the law's where the arguments, and the package variables that the reading takes, are together of bulk at most 1048576: NARROWER than '..Said'. Prove '..Said' where nothing that the law and all that it calls make is longer than what came in: it says more and counts as full. Else prove '..UptoSaid'. A law counts once. -/
mutual
def uptoBulk {H : Type} : DataW H → Nat
  | .lit (.string bytes) => bytes.length + 1
  | .lit _ => 1
  | .nil => 1
  | .ptr d => uptoBulk d + 1
  | .slice elems spare => uptoBulkAll elems + uptoBulkAll spare + 1
  | .agg parts => uptoBulkAll parts + 1
  | .iface _ d => uptoBulk d + 1
  | .map entries => uptoBulkEntries entries + 1
  | .held _ => 1
def uptoBulkAll {H : Type} : List (DataW H) → Nat
  | [] => 0
  | d :: r => uptoBulk d + uptoBulkAll r
def uptoBulkEntries {H : Type} : List (Lit × DataW H) → Nat
  | [] => 0
  | x :: r => uptoBulkEntry x + uptoBulkEntries r
def uptoBulkEntry {H : Type} : Lit × DataW H → Nat
  | (.string bytes, d) => bytes.length + uptoBulk d + 1
  | (_, d) => uptoBulk d + 1
 end
def uptoSmall : (H : Type) → List (DataW H) → Bool := fun _ ds => decide (uptoBulkAll ds ≤ 1048576)
def OpenSpec.upto (s : _root_.Go.ChangeSpec) : _root_.Go.OpenSpec := { _root_.Go.OpenSpec.ofChange s with cond := some uptoSmall }

/-- 'voussoirlaw17.LinkPairs', WHERE WHAT IT READS IS OF BULK AT MOST 1048576: true; the input reads as it did. -/
def linkPairsUptoRow : OpenClaim := { program := "ytclldibadmnppaa", sum := "5c0b649953d280528cd229b999e207b5e8e6c474dd79b806939d9de271c25802", func := "voussoir/voussoirlaw17.LinkPairs", spec := "linkPairs", apart := false, narrowed := true }
def LinkPairsUptoSaid : Prop := linkPairsUptoRow.holds Try.pinned (OpenSpec.upto linkPairsSpec)

/-- 'voussoirlaw17.LinkMirrors', WHERE WHAT IT READS IS OF BULK AT MOST 1048576: true; the input reads as it did. -/
def linkMirrorsUptoRow : OpenClaim := { program := "ytclldibadmnppaa", sum := "5c0b649953d280528cd229b999e207b5e8e6c474dd79b806939d9de271c25802", func := "voussoir/voussoirlaw17.LinkMirrors", spec := "linkMirrors", apart := false, narrowed := true }
def LinkMirrorsUptoSaid : Prop := linkMirrorsUptoRow.holds Try.pinned (OpenSpec.upto linkMirrorsSpec)

/-- 'voussoirlaw02.CodecLays', WHERE WHAT IT READS IS OF BULK AT MOST 1048576: true; the input reads as it did. -/
def codecLaysUptoRow : OpenClaim := { program := "ytclldibadmnppaa", sum := "5c0b649953d280528cd229b999e207b5e8e6c474dd79b806939d9de271c25802", func := "voussoir/voussoirlaw02.CodecLays", spec := "codecLays", apart := false, narrowed := true }
def CodecLaysUptoSaid : Prop := codecLaysUptoRow.holds Try.pinned (OpenSpec.upto codecLaysSpec)

/-- 'voussoirlaw02.CodecTakes', WHERE WHAT IT READS IS OF BULK AT MOST 1048576: true; the input reads as it did. -/
def codecTakesUptoRow : OpenClaim := { program := "ytclldibadmnppaa", sum := "5c0b649953d280528cd229b999e207b5e8e6c474dd79b806939d9de271c25802", func := "voussoir/voussoirlaw02.CodecTakes", spec := "codecTakes", apart := false, narrowed := true }
def CodecTakesUptoSaid : Prop := codecTakesUptoRow.holds Try.pinned (OpenSpec.upto codecTakesSpec)

/-- 'voussoirlaw02.CodecBack', WHERE WHAT IT READS IS OF BULK AT MOST 1048576: true; the input reads as it did. -/
def codecBackUptoRow : OpenClaim := { program := "ytclldibadmnppaa", sum := "5c0b649953d280528cd229b999e207b5e8e6c474dd79b806939d9de271c25802", func := "voussoir/voussoirlaw02.CodecBack", spec := "codecBack", apart := false, narrowed := true }
def CodecBackUptoSaid : Prop := codecBackUptoRow.holds Try.pinned (OpenSpec.upto codecBackSpec)

/-- 'voussoirlaw02.CodecForth', WHERE WHAT IT READS IS OF BULK AT MOST 1048576: true; the input reads as it did. -/
def codecForthUptoRow : OpenClaim := { program := "ytclldibadmnppaa", sum := "5c0b649953d280528cd229b999e207b5e8e6c474dd79b806939d9de271c25802", func := "voussoir/voussoirlaw02.CodecForth", spec := "codecForth", apart := false, narrowed := true }
def CodecForthUptoSaid : Prop := codecForthUptoRow.holds Try.pinned (OpenSpec.upto codecForthSpec)

/-- 'voussoirlaw02.CodecCuts', WHERE WHAT IT READS IS OF BULK AT MOST 1048576: true; the input reads as it did. -/
def codecCutsUptoRow : OpenClaim := { program := "ytclldibadmnppaa", sum := "5c0b649953d280528cd229b999e207b5e8e6c474dd79b806939d9de271c25802", func := "voussoir/voussoirlaw02.CodecCuts", spec := "codecCuts", apart := false, narrowed := true }
def CodecCutsUptoSaid : Prop := codecCutsUptoRow.holds Try.pinned (OpenSpec.upto codecCutsSpec)

/-- 'voussoirlaw02.CodecJoins', WHERE WHAT IT READS IS OF BULK AT MOST 1048576: true; the input reads as it did. -/
def codecJoinsUptoRow : OpenClaim := { program := "ytclldibadmnppaa", sum := "5c0b649953d280528cd229b999e207b5e8e6c474dd79b806939d9de271c25802", func := "voussoir/voussoirlaw02.CodecJoins", spec := "codecJoins", apart := false, narrowed := true }
def CodecJoinsUptoSaid : Prop := codecJoinsUptoRow.holds Try.pinned (OpenSpec.upto codecJoinsSpec)

/-- 'voussoirlaw02.CodecLong', WHERE WHAT IT READS IS OF BULK AT MOST 1048576: true; the input reads as it did. -/
def codecLongUptoRow : OpenClaim := { program := "ytclldibadmnppaa", sum := "5c0b649953d280528cd229b999e207b5e8e6c474dd79b806939d9de271c25802", func := "voussoir/voussoirlaw02.CodecLong", spec := "codecLong", apart := false, narrowed := true }
def CodecLongUptoSaid : Prop := codecLongUptoRow.holds Try.pinned (OpenSpec.upto codecLongSpec)

/-- 'voussoirtop.Names', WHERE WHAT IT READS IS OF BULK AT MOST 1048576: true; the input reads as it did. -/
def namesUptoRow : OpenClaim := { program := "ytclldibadmnppaa", sum := "5c0b649953d280528cd229b999e207b5e8e6c474dd79b806939d9de271c25802", func := "voussoir/voussoirtop.Names", spec := "names", apart := false, narrowed := true }
def NamesUptoSaid : Prop := namesUptoRow.holds Try.pinned (OpenSpec.upto namesSpec)

/-- 'voussoirlaw02.CodecStays', WHERE WHAT IT READS IS OF BULK AT MOST 1048576: true; the input reads as it did. -/
def codecStaysUptoRow : OpenClaim := { program := "ytclldibadmnppaa", sum := "5c0b649953d280528cd229b999e207b5e8e6c474dd79b806939d9de271c25802", func := "voussoir/voussoirlaw02.CodecStays", spec := "codecStays", apart := false, narrowed := true }
def CodecStaysUptoSaid : Prop := codecStaysUptoRow.holds Try.pinned (OpenSpec.upto codecStaysSpec)

/-- 'voussoirlaw02.CodecOrder', WHERE WHAT IT READS IS OF BULK AT MOST 1048576: true; the input reads as it did. -/
def codecOrderUptoRow : OpenClaim := { program := "ytclldibadmnppaa", sum := "5c0b649953d280528cd229b999e207b5e8e6c474dd79b806939d9de271c25802", func := "voussoir/voussoirlaw02.CodecOrder", spec := "codecOrder", apart := false, narrowed := true }
def CodecOrderUptoSaid : Prop := codecOrderUptoRow.holds Try.pinned (OpenSpec.upto codecOrderSpec)

/-- 'voussoirlaw17.LinkTells', WHERE WHAT IT READS IS OF BULK AT MOST 1048576: true; the input reads as it did. -/
def linkTellsUptoRow : OpenClaim := { program := "ytclldibadmnppaa", sum := "5c0b649953d280528cd229b999e207b5e8e6c474dd79b806939d9de271c25802", func := "voussoir/voussoirlaw17.LinkTells", spec := "linkTells", apart := false, narrowed := true }
def LinkTellsUptoSaid : Prop := linkTellsUptoRow.holds Try.pinned (OpenSpec.upto linkTellsSpec)

/-- 'voussoirlaw17.LinkBack', WHERE WHAT IT READS IS OF BULK AT MOST 1048576: true; the input reads as it did. -/
def linkBackUptoRow : OpenClaim := { program := "ytclldibadmnppaa", sum := "5c0b649953d280528cd229b999e207b5e8e6c474dd79b806939d9de271c25802", func := "voussoir/voussoirlaw17.LinkBack", spec := "linkBack", apart := false, narrowed := true }
def LinkBackUptoSaid : Prop := linkBackUptoRow.holds Try.pinned (OpenSpec.upto linkBackSpec)

/-- 'voussoirlaw17.LinkWhole', WHERE WHAT IT READS IS OF BULK AT MOST 1048576: true; the input reads as it did. -/
def linkWholeUptoRow : OpenClaim := { program := "ytclldibadmnppaa", sum := "5c0b649953d280528cd229b999e207b5e8e6c474dd79b806939d9de271c25802", func := "voussoir/voussoirlaw17.LinkWhole", spec := "linkWhole", apart := false, narrowed := true }
def LinkWholeUptoSaid : Prop := linkWholeUptoRow.holds Try.pinned (OpenSpec.upto linkWholeSpec)

end Rows
end Go.Proofs.Ytclldibadmnppaa
