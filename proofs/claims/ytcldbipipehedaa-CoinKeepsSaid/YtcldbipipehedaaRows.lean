/-
  No cell of these rows narrows 'for every input' (looked for: loops, veiled, ifaces, maps, wideKeys, modest, calm, conditions, laid).
  DERIVED. THE GIVEN ROWS OF THIS SEAT. 12 by the template 'for every input the law returns true; each argument reads behind the call as it read before'; 0 by the template 'total and deterministic' (their statements: YtcldbipipehedaaTotals.lean).
  GIVEN WITH THE SEED: the statements are not yours to turn. If you find one false, say at which input.
  Laid BY PROGRAM, IN A SANDBOX (cutbox-rows.mjs): the forced cells as the released guide's own fill.sh prints them over the translation 132f36caea49b389… (all of the seat's roots in one cut). By AI agents, Wed Nov 11 2026. No macro, syntax, notation, axiom, sorry.
-/
import Derived.Test.YtcldbipipehedaaChecked
import GoSem.Claim
import GoSem.ClaimJoined
import GoSem.ClaimMapViews
import Derived.JoinedTies
import Derived.KernelRfl
namespace Go.Proofs.Ytcldbipipehedaa
/- THE CELL 'sum', in the pinned program and in every row, IS THE sha256 OF THE DUMP (.gsa) THAT YtcldbipipehedaaProg.lean LOADS. Nothing in Lean hashes anything: it is a label: what it is worth is what the hold of that sum in a sandbox is worth. -/
noncomputable def Try.pinned : Pinned := { name := "ytcldbipipehedaa", sum := "132f36caea49b389ea62ddfc14d3eff75ede8b3b83b45ce5d59a35cfd2cd54a3", checked := Try.checked }
namespace Rows
def none {H : Type} : Left H := { results := [], args := [] }

/-- 'voussoirlaw19.CoinHomes': WHATEVER THE INPUT: true; the input reads as it did. -/
def coinHomesSpec : ChangeSpec := { name := "coinHomes", fn := fun _ => fun
  | [d1, d2, d3] => { results := [.lit (.bool true)], args := [d1, d2, d3] }
  | _ => none }
def coinHomesRow : OpenClaim := { program := "ytcldbipipehedaa", sum := "132f36caea49b389ea62ddfc14d3eff75ede8b3b83b45ce5d59a35cfd2cd54a3", func := "voussoir/voussoirlaw19.CoinHomes", spec := "coinHomes", plainKeys := false, apart := false }
def CoinHomesSaid : Prop := coinHomesRow.holds Try.pinned (OpenSpec.ofChange coinHomesSpec)

/-- ITS FALSE NEIGHBOUR: 'it returns false'. Refute it at one input. -/
def coinHomesWrong : ChangeSpec := { name := "coinHomes", fn := fun _ => fun
  | [d1, d2, d3] => { results := [.lit (.bool false)], args := [d1, d2, d3] }
  | _ => none }
def CoinHomesWrongFalsely : Prop := coinHomesRow.holds Try.pinned (OpenSpec.ofChange coinHomesWrong)

/-- 'voussoirlaw19.CoinPlays': WHATEVER THE INPUT: true; the input reads as it did. -/
def coinPlaysSpec : ChangeSpec := { name := "coinPlays", fn := fun _ => fun
  | [d1, d2, d3, d4] => { results := [.lit (.bool true)], args := [d1, d2, d3, d4] }
  | _ => none }
def coinPlaysRow : OpenClaim := { program := "ytcldbipipehedaa", sum := "132f36caea49b389ea62ddfc14d3eff75ede8b3b83b45ce5d59a35cfd2cd54a3", func := "voussoir/voussoirlaw19.CoinPlays", spec := "coinPlays", recurses := true, plainKeys := false, apart := false }
def CoinPlaysSaid : Prop := coinPlaysRow.holds Try.pinned (OpenSpec.ofChange coinPlaysSpec)

/-- ITS FALSE NEIGHBOUR: 'it returns false'. Refute it at one input. -/
def coinPlaysWrong : ChangeSpec := { name := "coinPlays", fn := fun _ => fun
  | [d1, d2, d3, d4] => { results := [.lit (.bool false)], args := [d1, d2, d3, d4] }
  | _ => none }
def CoinPlaysWrongFalsely : Prop := coinPlaysRow.holds Try.pinned (OpenSpec.ofChange coinPlaysWrong)

/-- 'voussoirlaw19.CoinKeeps': WHATEVER THE INPUT: true; the input reads as it did. -/
def coinKeepsSpec : ChangeSpec := { name := "coinKeeps", fn := fun _ => fun
  | [d1, d2] => { results := [.lit (.bool true)], args := [d1, d2] }
  | _ => none }
def coinKeepsRow : OpenClaim := { program := "ytcldbipipehedaa", sum := "132f36caea49b389ea62ddfc14d3eff75ede8b3b83b45ce5d59a35cfd2cd54a3", func := "voussoir/voussoirlaw19.CoinKeeps", spec := "coinKeeps", plainKeys := false, apart := false }
def CoinKeepsSaid : Prop := coinKeepsRow.holds Try.pinned (OpenSpec.ofChange coinKeepsSpec)

/-- ITS FALSE NEIGHBOUR: 'it returns false'. Refute it at one input. -/
def coinKeepsWrong : ChangeSpec := { name := "coinKeeps", fn := fun _ => fun
  | [d1, d2] => { results := [.lit (.bool false)], args := [d1, d2] }
  | _ => none }
def CoinKeepsWrongFalsely : Prop := coinKeepsRow.holds Try.pinned (OpenSpec.ofChange coinKeepsWrong)

/-- 'voussoirlaw19.CoinRefused': WHATEVER THE INPUT: true; the input reads as it did. -/
def coinRefusedSpec : ChangeSpec := { name := "coinRefused", fn := fun _ => fun
  | [d1, d2, d3, d4] => { results := [.lit (.bool true)], args := [d1, d2, d3, d4] }
  | _ => none }
def coinRefusedRow : OpenClaim := { program := "ytcldbipipehedaa", sum := "132f36caea49b389ea62ddfc14d3eff75ede8b3b83b45ce5d59a35cfd2cd54a3", func := "voussoir/voussoirlaw19.CoinRefused", spec := "coinRefused", inPlace := ["maps.clone"], plainKeys := false, apart := false }
def CoinRefusedSaid : Prop := coinRefusedRow.holds Try.pinned (OpenSpec.ofChange coinRefusedSpec)

/-- ITS FALSE NEIGHBOUR: 'it returns false'. Refute it at one input. -/
def coinRefusedWrong : ChangeSpec := { name := "coinRefused", fn := fun _ => fun
  | [d1, d2, d3, d4] => { results := [.lit (.bool false)], args := [d1, d2, d3, d4] }
  | _ => none }
def CoinRefusedWrongFalsely : Prop := coinRefusedRow.holds Try.pinned (OpenSpec.ofChange coinRefusedWrong)

/-- 'voussoirlaw19.CoinTells': WHATEVER THE INPUT: true; the input reads as it did. -/
def coinTellsSpec : ChangeSpec := { name := "coinTells", fn := fun _ => fun
  | [d1, d2, d3, d4] => { results := [.lit (.bool true)], args := [d1, d2, d3, d4] }
  | _ => none }
def coinTellsRow : OpenClaim := { program := "ytcldbipipehedaa", sum := "132f36caea49b389ea62ddfc14d3eff75ede8b3b83b45ce5d59a35cfd2cd54a3", func := "voussoir/voussoirlaw19.CoinTells", spec := "coinTells", recurses := true, plainKeys := false, apart := false }
def CoinTellsSaid : Prop := coinTellsRow.holds Try.pinned (OpenSpec.ofChange coinTellsSpec)

/-- ITS FALSE NEIGHBOUR: 'it returns false'. Refute it at one input. -/
def coinTellsWrong : ChangeSpec := { name := "coinTells", fn := fun _ => fun
  | [d1, d2, d3, d4] => { results := [.lit (.bool false)], args := [d1, d2, d3, d4] }
  | _ => none }
def CoinTellsWrongFalsely : Prop := coinTellsRow.holds Try.pinned (OpenSpec.ofChange coinTellsWrong)

/-- 'voussoirlaw19.CoinBack': WHATEVER THE INPUT: true; the input reads as it did. -/
def coinBackSpec : ChangeSpec := { name := "coinBack", fn := fun _ => fun
  | [d1, d2] => { results := [.lit (.bool true)], args := [d1, d2] }
  | _ => none }
def coinBackRow : OpenClaim := { program := "ytcldbipipehedaa", sum := "132f36caea49b389ea62ddfc14d3eff75ede8b3b83b45ce5d59a35cfd2cd54a3", func := "voussoir/voussoirlaw19.CoinBack", spec := "coinBack", plainKeys := false, apart := false }
def CoinBackSaid : Prop := coinBackRow.holds Try.pinned (OpenSpec.ofChange coinBackSpec)

/-- ITS FALSE NEIGHBOUR: 'it returns false'. Refute it at one input. -/
def coinBackWrong : ChangeSpec := { name := "coinBack", fn := fun _ => fun
  | [d1, d2] => { results := [.lit (.bool false)], args := [d1, d2] }
  | _ => none }
def CoinBackWrongFalsely : Prop := coinBackRow.holds Try.pinned (OpenSpec.ofChange coinBackWrong)

/-- 'voussoirlaw19.CoinWhole': WHATEVER THE INPUT: true; the input reads as it did. -/
def coinWholeSpec : ChangeSpec := { name := "coinWhole", fn := fun _ => fun
  | [d1, d2, d3] => { results := [.lit (.bool true)], args := [d1, d2, d3] }
  | _ => none }
def coinWholeRow : OpenClaim := { program := "ytcldbipipehedaa", sum := "132f36caea49b389ea62ddfc14d3eff75ede8b3b83b45ce5d59a35cfd2cd54a3", func := "voussoir/voussoirlaw19.CoinWhole", spec := "coinWhole", plainKeys := false, apart := false }
def CoinWholeSaid : Prop := coinWholeRow.holds Try.pinned (OpenSpec.ofChange coinWholeSpec)

/-- ITS FALSE NEIGHBOUR: 'it returns false'. Refute it at one input. -/
def coinWholeWrong : ChangeSpec := { name := "coinWhole", fn := fun _ => fun
  | [d1, d2, d3] => { results := [.lit (.bool false)], args := [d1, d2, d3] }
  | _ => none }
def CoinWholeWrongFalsely : Prop := coinWholeRow.holds Try.pinned (OpenSpec.ofChange coinWholeWrong)

/-- 'voussoirlaw10.BankKeeps': WHATEVER THE INPUT: true; the input reads as it did. -/
def bankKeepsSpec : ChangeSpec := { name := "bankKeeps", fn := fun _ => fun
  | [d] => { results := [.lit (.bool true)], args := [d] }
  | _ => none }
def bankKeepsRow : OpenClaim := { program := "ytcldbipipehedaa", sum := "132f36caea49b389ea62ddfc14d3eff75ede8b3b83b45ce5d59a35cfd2cd54a3", func := "voussoir/voussoirlaw10.BankKeeps", spec := "bankKeeps", recurses := true, plainKeys := false, apart := false }
def BankKeepsSaid : Prop := bankKeepsRow.holds Try.pinned (OpenSpec.ofChange bankKeepsSpec)

/-- ITS FALSE NEIGHBOUR: 'it returns false'. Refute it at one input. -/
def bankKeepsWrong : ChangeSpec := { name := "bankKeeps", fn := fun _ => fun
  | [d] => { results := [.lit (.bool false)], args := [d] }
  | _ => none }
def BankKeepsWrongFalsely : Prop := bankKeepsRow.holds Try.pinned (OpenSpec.ofChange bankKeepsWrong)

/-- 'voussoirlaw10.BankRefuses': WHATEVER THE INPUT: true; the input reads as it did. -/
def bankRefusesSpec : ChangeSpec := { name := "bankRefuses", fn := fun _ => fun
  | [d1, d2] => { results := [.lit (.bool true)], args := [d1, d2] }
  | _ => none }
def bankRefusesRow : OpenClaim := { program := "ytcldbipipehedaa", sum := "132f36caea49b389ea62ddfc14d3eff75ede8b3b83b45ce5d59a35cfd2cd54a3", func := "voussoir/voussoirlaw10.BankRefuses", spec := "bankRefuses", inPlace := ["maps.clone"], recurses := true, plainKeys := false, apart := false }
def BankRefusesSaid : Prop := bankRefusesRow.holds Try.pinned (OpenSpec.ofChange bankRefusesSpec)

/-- ITS FALSE NEIGHBOUR: 'it returns false'. Refute it at one input. -/
def bankRefusesWrong : ChangeSpec := { name := "bankRefuses", fn := fun _ => fun
  | [d1, d2] => { results := [.lit (.bool false)], args := [d1, d2] }
  | _ => none }
def BankRefusesWrongFalsely : Prop := bankRefusesRow.holds Try.pinned (OpenSpec.ofChange bankRefusesWrong)

/-- 'voussoirlaw10.BankBack': WHATEVER THE INPUT: true; the input reads as it did. -/
def bankBackSpec : ChangeSpec := { name := "bankBack", fn := fun _ => fun
  | [d1, d2] => { results := [.lit (.bool true)], args := [d1, d2] }
  | _ => none }
def bankBackRow : OpenClaim := { program := "ytcldbipipehedaa", sum := "132f36caea49b389ea62ddfc14d3eff75ede8b3b83b45ce5d59a35cfd2cd54a3", func := "voussoir/voussoirlaw10.BankBack", spec := "bankBack", inPlace := ["maps.clone"], recurses := true, plainKeys := false, apart := false }
def BankBackSaid : Prop := bankBackRow.holds Try.pinned (OpenSpec.ofChange bankBackSpec)

/-- ITS FALSE NEIGHBOUR: 'it returns false'. Refute it at one input. -/
def bankBackWrong : ChangeSpec := { name := "bankBack", fn := fun _ => fun
  | [d1, d2] => { results := [.lit (.bool false)], args := [d1, d2] }
  | _ => none }
def BankBackWrongFalsely : Prop := bankBackRow.holds Try.pinned (OpenSpec.ofChange bankBackWrong)

/-- 'voussoirlaw10.BankSplits': WHATEVER THE INPUT: true; the input reads as it did. -/
def bankSplitsSpec : ChangeSpec := { name := "bankSplits", fn := fun _ => fun
  | [d1, d2, d3] => { results := [.lit (.bool true)], args := [d1, d2, d3] }
  | _ => none }
def bankSplitsRow : OpenClaim := { program := "ytcldbipipehedaa", sum := "132f36caea49b389ea62ddfc14d3eff75ede8b3b83b45ce5d59a35cfd2cd54a3", func := "voussoir/voussoirlaw10.BankSplits", spec := "bankSplits", inPlace := ["maps.clone"], recurses := true, plainKeys := false, apart := false }
def BankSplitsSaid : Prop := bankSplitsRow.holds Try.pinned (OpenSpec.ofChange bankSplitsSpec)

/-- ITS FALSE NEIGHBOUR: 'it returns false'. Refute it at one input. -/
def bankSplitsWrong : ChangeSpec := { name := "bankSplits", fn := fun _ => fun
  | [d1, d2, d3] => { results := [.lit (.bool false)], args := [d1, d2, d3] }
  | _ => none }
def BankSplitsWrongFalsely : Prop := bankSplitsRow.holds Try.pinned (OpenSpec.ofChange bankSplitsWrong)

/-- 'voussoirlaw10.BankApart': WHATEVER THE INPUT: true; the input reads as it did. -/
def bankApartSpec : ChangeSpec := { name := "bankApart", fn := fun _ => fun
  | [d1, d2] => { results := [.lit (.bool true)], args := [d1, d2] }
  | _ => none }
def bankApartRow : OpenClaim := { program := "ytcldbipipehedaa", sum := "132f36caea49b389ea62ddfc14d3eff75ede8b3b83b45ce5d59a35cfd2cd54a3", func := "voussoir/voussoirlaw10.BankApart", spec := "bankApart", inPlace := ["maps.clone"], recurses := true, plainKeys := false, apart := false }
def BankApartSaid : Prop := bankApartRow.holds Try.pinned (OpenSpec.ofChange bankApartSpec)

/-- ITS FALSE NEIGHBOUR: 'it returns false'. Refute it at one input. -/
def bankApartWrong : ChangeSpec := { name := "bankApart", fn := fun _ => fun
  | [d1, d2] => { results := [.lit (.bool false)], args := [d1, d2] }
  | _ => none }
def BankApartWrongFalsely : Prop := bankApartRow.holds Try.pinned (OpenSpec.ofChange bankApartWrong)

/- THE SECOND FORM. 'bulk': how many values and letters a reading holds, each counted each time it is reached (what is shared counts as often as it is met; a slice's spare places count too). A statement '..UptoSaid' is the law's where the arguments, and the package variables that the reading takes, are together of bulk at most 1048576: NARROWER than '..Said'. Prove '..Said' where nothing that the law and all that it calls make is longer than what came in: it says more and counts as full. Else prove '..UptoSaid'. A law counts once. -/
mutual
def uptoBulk {H : Type} : DataW H → Nat
  | .lit (.string bytes) => bytes.length + 1
  | .lit _ => 1
  | .nil => 1
  | .ptr d => uptoBulk d + 1
  | .slice elems spare => uptoBulkAll elems + uptoBulkAll spare + 1
  | .agg parts => uptoBulkAll parts + 1
  | .iface _ d => uptoBulk d + 1
  | .map entries => uptoBulkEntries entries + 1
  | .held _ => 1
def uptoBulkAll {H : Type} : List (DataW H) → Nat
  | [] => 0
  | d :: r => uptoBulk d + uptoBulkAll r
def uptoBulkEntries {H : Type} : List (Lit × DataW H) → Nat
  | [] => 0
  | x :: r => uptoBulkEntry x + uptoBulkEntries r
def uptoBulkEntry {H : Type} : Lit × DataW H → Nat
  | (.string bytes, d) => bytes.length + uptoBulk d + 1
  | (_, d) => uptoBulk d + 1
 end
def uptoSmall : (H : Type) → List (DataW H) → Bool := fun _ ds => decide (uptoBulkAll ds ≤ 1048576)
def OpenSpec.upto (s : _root_.Go.ChangeSpec) : _root_.Go.OpenSpec := { _root_.Go.OpenSpec.ofChange s with cond := some uptoSmall }

/-- 'voussoirlaw19.CoinHomes', WHERE WHAT IT READS IS OF BULK AT MOST 1048576: true; the input reads as it did. -/
def coinHomesUptoRow : OpenClaim := { program := "ytcldbipipehedaa", sum := "132f36caea49b389ea62ddfc14d3eff75ede8b3b83b45ce5d59a35cfd2cd54a3", func := "voussoir/voussoirlaw19.CoinHomes", spec := "coinHomes", plainKeys := false, apart := false, narrowed := true }
def CoinHomesUptoSaid : Prop := coinHomesUptoRow.holds Try.pinned (OpenSpec.upto coinHomesSpec)

/-- 'voussoirlaw19.CoinPlays', WHERE WHAT IT READS IS OF BULK AT MOST 1048576: true; the input reads as it did. -/
def coinPlaysUptoRow : OpenClaim := { program := "ytcldbipipehedaa", sum := "132f36caea49b389ea62ddfc14d3eff75ede8b3b83b45ce5d59a35cfd2cd54a3", func := "voussoir/voussoirlaw19.CoinPlays", spec := "coinPlays", recurses := true, plainKeys := false, apart := false, narrowed := true }
def CoinPlaysUptoSaid : Prop := coinPlaysUptoRow.holds Try.pinned (OpenSpec.upto coinPlaysSpec)

/-- 'voussoirlaw19.CoinKeeps', WHERE WHAT IT READS IS OF BULK AT MOST 1048576: true; the input reads as it did. -/
def coinKeepsUptoRow : OpenClaim := { program := "ytcldbipipehedaa", sum := "132f36caea49b389ea62ddfc14d3eff75ede8b3b83b45ce5d59a35cfd2cd54a3", func := "voussoir/voussoirlaw19.CoinKeeps", spec := "coinKeeps", plainKeys := false, apart := false, narrowed := true }
def CoinKeepsUptoSaid : Prop := coinKeepsUptoRow.holds Try.pinned (OpenSpec.upto coinKeepsSpec)

/-- 'voussoirlaw19.CoinRefused', WHERE WHAT IT READS IS OF BULK AT MOST 1048576: true; the input reads as it did. -/
def coinRefusedUptoRow : OpenClaim := { program := "ytcldbipipehedaa", sum := "132f36caea49b389ea62ddfc14d3eff75ede8b3b83b45ce5d59a35cfd2cd54a3", func := "voussoir/voussoirlaw19.CoinRefused", spec := "coinRefused", inPlace := ["maps.clone"], plainKeys := false, apart := false, narrowed := true }
def CoinRefusedUptoSaid : Prop := coinRefusedUptoRow.holds Try.pinned (OpenSpec.upto coinRefusedSpec)

/-- 'voussoirlaw19.CoinTells', WHERE WHAT IT READS IS OF BULK AT MOST 1048576: true; the input reads as it did. -/
def coinTellsUptoRow : OpenClaim := { program := "ytcldbipipehedaa", sum := "132f36caea49b389ea62ddfc14d3eff75ede8b3b83b45ce5d59a35cfd2cd54a3", func := "voussoir/voussoirlaw19.CoinTells", spec := "coinTells", recurses := true, plainKeys := false, apart := false, narrowed := true }
def CoinTellsUptoSaid : Prop := coinTellsUptoRow.holds Try.pinned (OpenSpec.upto coinTellsSpec)

/-- 'voussoirlaw19.CoinBack', WHERE WHAT IT READS IS OF BULK AT MOST 1048576: true; the input reads as it did. -/
def coinBackUptoRow : OpenClaim := { program := "ytcldbipipehedaa", sum := "132f36caea49b389ea62ddfc14d3eff75ede8b3b83b45ce5d59a35cfd2cd54a3", func := "voussoir/voussoirlaw19.CoinBack", spec := "coinBack", plainKeys := false, apart := false, narrowed := true }
def CoinBackUptoSaid : Prop := coinBackUptoRow.holds Try.pinned (OpenSpec.upto coinBackSpec)

/-- 'voussoirlaw19.CoinWhole', WHERE WHAT IT READS IS OF BULK AT MOST 1048576: true; the input reads as it did. -/
def coinWholeUptoRow : OpenClaim := { program := "ytcldbipipehedaa", sum := "132f36caea49b389ea62ddfc14d3eff75ede8b3b83b45ce5d59a35cfd2cd54a3", func := "voussoir/voussoirlaw19.CoinWhole", spec := "coinWhole", plainKeys := false, apart := false, narrowed := true }
def CoinWholeUptoSaid : Prop := coinWholeUptoRow.holds Try.pinned (OpenSpec.upto coinWholeSpec)

/-- 'voussoirlaw10.BankKeeps', WHERE WHAT IT READS IS OF BULK AT MOST 1048576: true; the input reads as it did. -/
def bankKeepsUptoRow : OpenClaim := { program := "ytcldbipipehedaa", sum := "132f36caea49b389ea62ddfc14d3eff75ede8b3b83b45ce5d59a35cfd2cd54a3", func := "voussoir/voussoirlaw10.BankKeeps", spec := "bankKeeps", recurses := true, plainKeys := false, apart := false, narrowed := true }
def BankKeepsUptoSaid : Prop := bankKeepsUptoRow.holds Try.pinned (OpenSpec.upto bankKeepsSpec)

/-- 'voussoirlaw10.BankRefuses', WHERE WHAT IT READS IS OF BULK AT MOST 1048576: true; the input reads as it did. -/
def bankRefusesUptoRow : OpenClaim := { program := "ytcldbipipehedaa", sum := "132f36caea49b389ea62ddfc14d3eff75ede8b3b83b45ce5d59a35cfd2cd54a3", func := "voussoir/voussoirlaw10.BankRefuses", spec := "bankRefuses", inPlace := ["maps.clone"], recurses := true, plainKeys := false, apart := false, narrowed := true }
def BankRefusesUptoSaid : Prop := bankRefusesUptoRow.holds Try.pinned (OpenSpec.upto bankRefusesSpec)

/-- 'voussoirlaw10.BankBack', WHERE WHAT IT READS IS OF BULK AT MOST 1048576: true; the input reads as it did. -/
def bankBackUptoRow : OpenClaim := { program := "ytcldbipipehedaa", sum := "132f36caea49b389ea62ddfc14d3eff75ede8b3b83b45ce5d59a35cfd2cd54a3", func := "voussoir/voussoirlaw10.BankBack", spec := "bankBack", inPlace := ["maps.clone"], recurses := true, plainKeys := false, apart := false, narrowed := true }
def BankBackUptoSaid : Prop := bankBackUptoRow.holds Try.pinned (OpenSpec.upto bankBackSpec)

/-- 'voussoirlaw10.BankSplits', WHERE WHAT IT READS IS OF BULK AT MOST 1048576: true; the input reads as it did. -/
def bankSplitsUptoRow : OpenClaim := { program := "ytcldbipipehedaa", sum := "132f36caea49b389ea62ddfc14d3eff75ede8b3b83b45ce5d59a35cfd2cd54a3", func := "voussoir/voussoirlaw10.BankSplits", spec := "bankSplits", inPlace := ["maps.clone"], recurses := true, plainKeys := false, apart := false, narrowed := true }
def BankSplitsUptoSaid : Prop := bankSplitsUptoRow.holds Try.pinned (OpenSpec.upto bankSplitsSpec)

/-- 'voussoirlaw10.BankApart', WHERE WHAT IT READS IS OF BULK AT MOST 1048576: true; the input reads as it did. -/
def bankApartUptoRow : OpenClaim := { program := "ytcldbipipehedaa", sum := "132f36caea49b389ea62ddfc14d3eff75ede8b3b83b45ce5d59a35cfd2cd54a3", func := "voussoir/voussoirlaw10.BankApart", spec := "bankApart", inPlace := ["maps.clone"], recurses := true, plainKeys := false, apart := false, narrowed := true }
def BankApartUptoSaid : Prop := bankApartUptoRow.holds Try.pinned (OpenSpec.upto bankApartSpec)

end Rows
end Go.Proofs.Ytcldbipipehedaa
