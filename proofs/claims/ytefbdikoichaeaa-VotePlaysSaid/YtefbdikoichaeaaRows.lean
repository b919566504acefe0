/-
  No cell of these rows narrows 'for every input' (looked for: loops, veiled, ifaces, maps, wideKeys, modest, calm, conditions, laid).
  DERIVED. THE GIVEN ROWS OF THIS SEAT. 8 by the template 'for every input the law returns true; each argument reads behind the call as it read before'; 0 by the template 'total and deterministic' (their statements: YtefbdikoichaeaaTotals.lean).
  GIVEN WITH THE SEED: the statements are not yours to turn. If you find one false, say at which input.
  Laid BY PROGRAM, IN A SANDBOX (cutbox-rows.mjs): the forced cells as the released guide's own fill.sh prints them over the translation 088c8b891fc3f55d… (all of the seat's roots in one cut). By AI agents, Wed Nov 11 2026. No macro, syntax, notation, axiom, sorry.
-/
import Derived.Test.YtefbdikoichaeaaChecked
import GoSem.Claim
import GoSem.ClaimJoined
import GoSem.ClaimMapViews
import Derived.JoinedTies
import Derived.KernelRfl
namespace Go.Proofs.Ytefbdikoichaeaa
/- THE CELL 'sum', in the pinned program and in every row, IS THE sha256 OF THE DUMP (.gsa) THAT YtefbdikoichaeaaProg.lean LOADS. Nothing in Lean hashes anything: it is a label: what it is worth is what the hold of that sum in a sandbox is worth. -/
noncomputable def Try.pinned : Pinned := { name := "ytefbdikoichaeaa", sum := "088c8b891fc3f55d9d7506020c256046494c8d7ffc7607260e318ddf263f975f", checked := Try.checked }
namespace Rows
def none {H : Type} : Left H := { results := [], args := [] }

/-- 'voussoirlaw13.VoteLine': WHATEVER THE INPUT: true; the input reads as it did. -/
def voteLineSpec : ChangeSpec := { name := "voteLine", fn := fun _ => fun
  | [d1, d2, d3, d4] => { results := [.lit (.bool true)], args := [d1, d2, d3, d4] }
  | _ => none }
def voteLineRow : OpenClaim := { program := "ytefbdikoichaeaa", sum := "088c8b891fc3f55d9d7506020c256046494c8d7ffc7607260e318ddf263f975f", func := "voussoir/voussoirlaw13.VoteLine", spec := "voteLine", apart := false }
def VoteLineSaid : Prop := voteLineRow.holds Try.pinned (OpenSpec.ofChange voteLineSpec)

/-- ITS FALSE NEIGHBOUR: 'it returns false'. Refute it at one input. -/
def voteLineWrong : ChangeSpec := { name := "voteLine", fn := fun _ => fun
  | [d1, d2, d3, d4] => { results := [.lit (.bool false)], args := [d1, d2, d3, d4] }
  | _ => none }
def VoteLineWrongFalsely : Prop := voteLineRow.holds Try.pinned (OpenSpec.ofChange voteLineWrong)

/-- 'voussoirlaw13.VoteGrows': WHATEVER THE INPUT: true; the input reads as it did. -/
def voteGrowsSpec : ChangeSpec := { name := "voteGrows", fn := fun _ => fun
  | [d1, d2, d3, d4] => { results := [.lit (.bool true)], args := [d1, d2, d3, d4] }
  | _ => none }
def voteGrowsRow : OpenClaim := { program := "ytefbdikoichaeaa", sum := "088c8b891fc3f55d9d7506020c256046494c8d7ffc7607260e318ddf263f975f", func := "voussoir/voussoirlaw13.VoteGrows", spec := "voteGrows", apart := false }
def VoteGrowsSaid : Prop := voteGrowsRow.holds Try.pinned (OpenSpec.ofChange voteGrowsSpec)

/-- ITS FALSE NEIGHBOUR: 'it returns false'. Refute it at one input. -/
def voteGrowsWrong : ChangeSpec := { name := "voteGrows", fn := fun _ => fun
  | [d1, d2, d3, d4] => { results := [.lit (.bool false)], args := [d1, d2, d3, d4] }
  | _ => none }
def VoteGrowsWrongFalsely : Prop := voteGrowsRow.holds Try.pinned (OpenSpec.ofChange voteGrowsWrong)

/-- 'voussoirlaw13.VoteThree': WHATEVER THE INPUT: true; the input reads as it did. -/
def voteThreeSpec : ChangeSpec := { name := "voteThree", fn := fun _ => fun
  | [d1, d2, d3] => { results := [.lit (.bool true)], args := [d1, d2, d3] }
  | _ => none }
def voteThreeRow : OpenClaim := { program := "ytefbdikoichaeaa", sum := "088c8b891fc3f55d9d7506020c256046494c8d7ffc7607260e318ddf263f975f", func := "voussoir/voussoirlaw13.VoteThree", spec := "voteThree", apart := false }
def VoteThreeSaid : Prop := voteThreeRow.holds Try.pinned (OpenSpec.ofChange voteThreeSpec)

/-- ITS FALSE NEIGHBOUR: 'it returns false'. Refute it at one input. -/
def voteThreeWrong : ChangeSpec := { name := "voteThree", fn := fun _ => fun
  | [d1, d2, d3] => { results := [.lit (.bool false)], args := [d1, d2, d3] }
  | _ => none }
def VoteThreeWrongFalsely : Prop := voteThreeRow.holds Try.pinned (OpenSpec.ofChange voteThreeWrong)

/-- 'voussoirlaw13.VotePlays': WHATEVER THE INPUT: true; the input reads as it did. -/
def votePlaysSpec : ChangeSpec := { name := "votePlays", fn := fun _ => fun
  | [d1, d2, d3, d4, d5, d6] => { results := [.lit (.bool true)], args := [d1, d2, d3, d4, d5, d6] }
  | _ => none }
def votePlaysRow : OpenClaim := { program := "ytefbdikoichaeaa", sum := "088c8b891fc3f55d9d7506020c256046494c8d7ffc7607260e318ddf263f975f", func := "voussoir/voussoirlaw13.VotePlays", spec := "votePlays", apart := false }
def VotePlaysSaid : Prop := votePlaysRow.holds Try.pinned (OpenSpec.ofChange votePlaysSpec)

/-- ITS FALSE NEIGHBOUR: 'it returns false'. Refute it at one input. -/
def votePlaysWrong : ChangeSpec := { name := "votePlays", fn := fun _ => fun
  | [d1, d2, d3, d4, d5, d6] => { results := [.lit (.bool false)], args := [d1, d2, d3, d4, d5, d6] }
  | _ => none }
def VotePlaysWrongFalsely : Prop := votePlaysRow.holds Try.pinned (OpenSpec.ofChange votePlaysWrong)

/-- 'voussoirlaw13.VoteSafe': WHATEVER THE INPUT: true; the input reads as it did. -/
def voteSafeSpec : ChangeSpec := { name := "voteSafe", fn := fun _ => fun
  | [d1, d2] => { results := [.lit (.bool true)], args := [d1, d2] }
  | _ => none }
def voteSafeRow : OpenClaim := { program := "ytefbdikoichaeaa", sum := "088c8b891fc3f55d9d7506020c256046494c8d7ffc7607260e318ddf263f975f", func := "voussoir/voussoirlaw13.VoteSafe", spec := "voteSafe", apart := false }
def VoteSafeSaid : Prop := voteSafeRow.holds Try.pinned (OpenSpec.ofChange voteSafeSpec)

/-- ITS FALSE NEIGHBOUR: 'it returns false'. Refute it at one input. -/
def voteSafeWrong : ChangeSpec := { name := "voteSafe", fn := fun _ => fun
  | [d1, d2] => { results := [.lit (.bool false)], args := [d1, d2] }
  | _ => none }
def VoteSafeWrongFalsely : Prop := voteSafeRow.holds Try.pinned (OpenSpec.ofChange voteSafeWrong)

/-- 'voussoirlaw13.VoteOpen': WHATEVER THE INPUT: true; the input reads as it did. -/
def voteOpenSpec : ChangeSpec := { name := "voteOpen", fn := fun _ => fun
  | [d1, d2] => { results := [.lit (.bool true)], args := [d1, d2] }
  | _ => none }
def voteOpenRow : OpenClaim := { program := "ytefbdikoichaeaa", sum := "088c8b891fc3f55d9d7506020c256046494c8d7ffc7607260e318ddf263f975f", func := "voussoir/voussoirlaw13.VoteOpen", spec := "voteOpen", apart := false }
def VoteOpenSaid : Prop := voteOpenRow.holds Try.pinned (OpenSpec.ofChange voteOpenSpec)

/-- ITS FALSE NEIGHBOUR: 'it returns false'. Refute it at one input. -/
def voteOpenWrong : ChangeSpec := { name := "voteOpen", fn := fun _ => fun
  | [d1, d2] => { results := [.lit (.bool false)], args := [d1, d2] }
  | _ => none }
def VoteOpenWrongFalsely : Prop := voteOpenRow.holds Try.pinned (OpenSpec.ofChange voteOpenWrong)

/-- 'voussoirlaw13.VoteOnce': WHATEVER THE INPUT: true; the input reads as it did. -/
def voteOnceSpec : ChangeSpec := { name := "voteOnce", fn := fun _ => fun
  | [d1, d2] => { results := [.lit (.bool true)], args := [d1, d2] }
  | _ => none }
def voteOnceRow : OpenClaim := { program := "ytefbdikoichaeaa", sum := "088c8b891fc3f55d9d7506020c256046494c8d7ffc7607260e318ddf263f975f", func := "voussoir/voussoirlaw13.VoteOnce", spec := "voteOnce", apart := false }
def VoteOnceSaid : Prop := voteOnceRow.holds Try.pinned (OpenSpec.ofChange voteOnceSpec)

/-- ITS FALSE NEIGHBOUR: 'it returns false'. Refute it at one input. -/
def voteOnceWrong : ChangeSpec := { name := "voteOnce", fn := fun _ => fun
  | [d1, d2] => { results := [.lit (.bool false)], args := [d1, d2] }
  | _ => none }
def VoteOnceWrongFalsely : Prop := voteOnceRow.holds Try.pinned (OpenSpec.ofChange voteOnceWrong)

/-- 'voussoirlaw13.VoteKeeps': WHATEVER THE INPUT: true; the input reads as it did. -/
def voteKeepsSpec : ChangeSpec := { name := "voteKeeps", fn := fun _ => fun
  | [d1, d2, d3, d4] => { results := [.lit (.bool true)], args := [d1, d2, d3, d4] }
  | _ => none }
def voteKeepsRow : OpenClaim := { program := "ytefbdikoichaeaa", sum := "088c8b891fc3f55d9d7506020c256046494c8d7ffc7607260e318ddf263f975f", func := "voussoir/voussoirlaw13.VoteKeeps", spec := "voteKeeps", apart := false }
def VoteKeepsSaid : Prop := voteKeepsRow.holds Try.pinned (OpenSpec.ofChange voteKeepsSpec)

/-- ITS FALSE NEIGHBOUR: 'it returns false'. Refute it at one input. -/
def voteKeepsWrong : ChangeSpec := { name := "voteKeeps", fn := fun _ => fun
  | [d1, d2, d3, d4] => { results := [.lit (.bool false)], args := [d1, d2, d3, d4] }
  | _ => none }
def VoteKeepsWrongFalsely : Prop := voteKeepsRow.holds Try.pinned (OpenSpec.ofChange voteKeepsWrong)

/- THE SECOND FORM. 'bulk': how many values and letters a reading holds, each counted each time it is reached (what is shared counts as often as it is met; a slice's spare places count too). A statement '..UptoSaid' is the law's where the arguments, and the package variables that the reading takes, are together of bulk at most 1048576: NARROWER than '..Said'. Prove '..Said' where nothing that the law and all that it calls make is longer than what came in: it says more and counts as full. Else prove '..UptoSaid'. A law counts once. -/
mutual
def uptoBulk {H : Type} : DataW H → Nat
  | .lit (.string bytes) => bytes.length + 1
  | .lit _ => 1
  | .nil => 1
  | .ptr d => uptoBulk d + 1
  | .slice elems spare => uptoBulkAll elems + uptoBulkAll spare + 1
  | .agg parts => uptoBulkAll parts + 1
  | .iface _ d => uptoBulk d + 1
  | .map entries => uptoBulkEntries entries + 1
  | .held _ => 1
def uptoBulkAll {H : Type} : List (DataW H) → Nat
  | [] => 0
  | d :: r => uptoBulk d + uptoBulkAll r
def uptoBulkEntries {H : Type} : List (Lit × DataW H) → Nat
  | [] => 0
  | x :: r => uptoBulkEntry x + uptoBulkEntries r
def uptoBulkEntry {H : Type} : Lit × DataW H → Nat
  | (.string bytes, d) => bytes.length + uptoBulk d + 1
  | (_, d) => uptoBulk d + 1
 end
def uptoSmall : (H : Type) → List (DataW H) → Bool := fun _ ds => decide (uptoBulkAll ds ≤ 1048576)
def OpenSpec.upto (s : _root_.Go.ChangeSpec) : _root_.Go.OpenSpec := { _root_.Go.OpenSpec.ofChange s with cond := some uptoSmall }

/-- 'voussoirlaw13.VoteLine', WHERE WHAT IT READS IS OF BULK AT MOST 1048576: true; the input reads as it did. -/
def voteLineUptoRow : OpenClaim := { program := "ytefbdikoichaeaa", sum := "088c8b891fc3f55d9d7506020c256046494c8d7ffc7607260e318ddf263f975f", func := "voussoir/voussoirlaw13.VoteLine", spec := "voteLine", apart := false, narrowed := true }
def VoteLineUptoSaid : Prop := voteLineUptoRow.holds Try.pinned (OpenSpec.upto voteLineSpec)

/-- 'voussoirlaw13.VoteGrows', WHERE WHAT IT READS IS OF BULK AT MOST 1048576: true; the input reads as it did. -/
def voteGrowsUptoRow : OpenClaim := { program := "ytefbdikoichaeaa", sum := "088c8b891fc3f55d9d7506020c256046494c8d7ffc7607260e318ddf263f975f", func := "voussoir/voussoirlaw13.VoteGrows", spec := "voteGrows", apart := false, narrowed := true }
def VoteGrowsUptoSaid : Prop := voteGrowsUptoRow.holds Try.pinned (OpenSpec.upto voteGrowsSpec)

/-- 'voussoirlaw13.VoteThree', WHERE WHAT IT READS IS OF BULK AT MOST 1048576: true; the input reads as it did. -/
def voteThreeUptoRow : OpenClaim := { program := "ytefbdikoichaeaa", sum := "088c8b891fc3f55d9d7506020c256046494c8d7ffc7607260e318ddf263f975f", func := "voussoir/voussoirlaw13.VoteThree", spec := "voteThree", apart := false, narrowed := true }
def VoteThreeUptoSaid : Prop := voteThreeUptoRow.holds Try.pinned (OpenSpec.upto voteThreeSpec)

/-- 'voussoirlaw13.VotePlays', WHERE WHAT IT READS IS OF BULK AT MOST 1048576: true; the input reads as it did. -/
def votePlaysUptoRow : OpenClaim := { program := "ytefbdikoichaeaa", sum := "088c8b891fc3f55d9d7506020c256046494c8d7ffc7607260e318ddf263f975f", func := "voussoir/voussoirlaw13.VotePlays", spec := "votePlays", apart := false, narrowed := true }
def VotePlaysUptoSaid : Prop := votePlaysUptoRow.holds Try.pinned (OpenSpec.upto votePlaysSpec)

/-- 'voussoirlaw13.VoteSafe', WHERE WHAT IT READS IS OF BULK AT MOST 1048576: true; the input reads as it did. -/
def voteSafeUptoRow : OpenClaim := { program := "ytefbdikoichaeaa", sum := "088c8b891fc3f55d9d7506020c256046494c8d7ffc7607260e318ddf263f975f", func := "voussoir/voussoirlaw13.VoteSafe", spec := "voteSafe", apart := false, narrowed := true }
def VoteSafeUptoSaid : Prop := voteSafeUptoRow.holds Try.pinned (OpenSpec.upto voteSafeSpec)

/-- 'voussoirlaw13.VoteOpen', WHERE WHAT IT READS IS OF BULK AT MOST 1048576: true; the input reads as it did. -/
def voteOpenUptoRow : OpenClaim := { program := "ytefbdikoichaeaa", sum := "088c8b891fc3f55d9d7506020c256046494c8d7ffc7607260e318ddf263f975f", func := "voussoir/voussoirlaw13.VoteOpen", spec := "voteOpen", apart := false, narrowed := true }
def VoteOpenUptoSaid : Prop := voteOpenUptoRow.holds Try.pinned (OpenSpec.upto voteOpenSpec)

/-- 'voussoirlaw13.VoteOnce', WHERE WHAT IT READS IS OF BULK AT MOST 1048576: true; the input reads as it did. -/
def voteOnceUptoRow : OpenClaim := { program := "ytefbdikoichaeaa", sum := "088c8b891fc3f55d9d7506020c256046494c8d7ffc7607260e318ddf263f975f", func := "voussoir/voussoirlaw13.VoteOnce", spec := "voteOnce", apart := false, narrowed := true }
def VoteOnceUptoSaid : Prop := voteOnceUptoRow.holds Try.pinned (OpenSpec.upto voteOnceSpec)

/-- 'voussoirlaw13.VoteKeeps', WHERE WHAT IT READS IS OF BULK AT MOST 1048576: true; the input reads as it did. -/
def voteKeepsUptoRow : OpenClaim := { program := "ytefbdikoichaeaa", sum := "088c8b891fc3f55d9d7506020c256046494c8d7ffc7607260e318ddf263f975f", func := "voussoir/voussoirlaw13.VoteKeeps", spec := "voteKeeps", apart := false, narrowed := true }
def VoteKeepsUptoSaid : Prop := voteKeepsUptoRow.holds Try.pinned (OpenSpec.upto voteKeepsSpec)

end Rows
end Go.Proofs.Ytefbdikoichaeaa
