/-
  No cell of these rows narrows 'for every input' (looked for: loops, veiled, ifaces, maps, wideKeys, modest, calm, conditions, laid).
  DERIVED. THE GIVEN ROWS OF THIS SEAT. 9 by the template 'for every input the law returns true; each argument reads behind the call as it read before'; 0 by the template 'total and deterministic' (their statements: YtgekfafangcggaaTotals.lean).
  GIVEN WITH THE SEED: the statements are not yours to turn. If you find one false, say at which input.
  Laid BY PROGRAM, IN A SANDBOX (cutbox-rows.mjs): the forced cells as the released guide's own fill.sh prints them over the translation b35f1b458008e0d2… (all of the seat's roots in one cut). By AI agents, Wed Nov 11 2026. No macro, syntax, notation, axiom, sorry.
-/
import Derived.Test.YtgekfafangcggaaChecked
import GoSem.Claim
import GoSem.ClaimJoined
import GoSem.ClaimMapViews
import Derived.JoinedTies
import Derived.KernelRfl
namespace Go.Proofs.Ytgekfafangcggaa
/- THE CELL 'sum', in the pinned program and in every row, IS THE sha256 OF THE DUMP (.gsa) THAT YtgekfafangcggaaProg.lean LOADS. Nothing in Lean hashes anything: it is a label: what it is worth is what the hold of that sum in a sandbox is worth. -/
noncomputable def Try.pinned : Pinned := { name := "ytgekfafangcggaa", sum := "b35f1b458008e0d25abf0c32884826573f3d4b2193830e4eac77c081824a9bfd", checked := Try.checked }
namespace Rows
def none {H : Type} : Left H := { results := [], args := [] }

/-- 'railplanlaw16.SimplexCutSplits': WHATEVER THE INPUT: true; the input reads as it did. -/
def simplexCutSplitsSpec : ChangeSpec := { name := "simplexCutSplits", fn := fun _ => fun
  | [d1, d2] => { results := [.lit (.bool true)], args := [d1, d2] }
  | _ => none }
def simplexCutSplitsRow : OpenClaim := { program := "ytgekfafangcggaa", sum := "b35f1b458008e0d25abf0c32884826573f3d4b2193830e4eac77c081824a9bfd", func := "railplan/railplanlaw16.SimplexCutSplits", spec := "simplexCutSplits", apart := false }
def SimplexCutSplitsSaid : Prop := simplexCutSplitsRow.holds Try.pinned (OpenSpec.ofChange simplexCutSplitsSpec)

/-- ITS FALSE NEIGHBOUR: 'it returns false'. Refute it at one input. -/
def simplexCutSplitsWrong : ChangeSpec := { name := "simplexCutSplits", fn := fun _ => fun
  | [d1, d2] => { results := [.lit (.bool false)], args := [d1, d2] }
  | _ => none }
def SimplexCutSplitsWrongFalsely : Prop := simplexCutSplitsRow.holds Try.pinned (OpenSpec.ofChange simplexCutSplitsWrong)

/-- 'railplanlaw16.SimplexExamples': WHATEVER THE INPUT: true; the input reads as it did. -/
def simplexExamplesSpec : ChangeSpec := { name := "simplexExamples", fn := fun _ => fun
  | [] => { results := [.lit (.bool true)], args := [] }
  | _ => none }
def simplexExamplesRow : OpenClaim := { program := "ytgekfafangcggaa", sum := "b35f1b458008e0d25abf0c32884826573f3d4b2193830e4eac77c081824a9bfd", func := "railplan/railplanlaw16.SimplexExamples", spec := "simplexExamples", recurses := true, apart := false }
def SimplexExamplesSaid : Prop := simplexExamplesRow.holds Try.pinned (OpenSpec.ofChange simplexExamplesSpec)

/-- ITS FALSE NEIGHBOUR: 'it returns false'. Refute it at one input. -/
def simplexExamplesWrong : ChangeSpec := { name := "simplexExamples", fn := fun _ => fun
  | [] => { results := [.lit (.bool false)], args := [] }
  | _ => none }
def SimplexExamplesWrongFalsely : Prop := simplexExamplesRow.holds Try.pinned (OpenSpec.ofChange simplexExamplesWrong)

/-- 'railplanlaw16.SimplexMoveTightens': WHATEVER THE INPUT: true; the input reads as it did. -/
def simplexMoveTightensSpec : ChangeSpec := { name := "simplexMoveTightens", fn := fun _ => fun
  | [d1, d2, d3, d4] => { results := [.lit (.bool true)], args := [d1, d2, d3, d4] }
  | _ => none }
def simplexMoveTightensRow : OpenClaim := { program := "ytgekfafangcggaa", sum := "b35f1b458008e0d25abf0c32884826573f3d4b2193830e4eac77c081824a9bfd", func := "railplan/railplanlaw16.SimplexMoveTightens", spec := "simplexMoveTightens", recurses := true, apart := false }
def SimplexMoveTightensSaid : Prop := simplexMoveTightensRow.holds Try.pinned (OpenSpec.ofChange simplexMoveTightensSpec)

/-- ITS FALSE NEIGHBOUR: 'it returns false'. Refute it at one input. -/
def simplexMoveTightensWrong : ChangeSpec := { name := "simplexMoveTightens", fn := fun _ => fun
  | [d1, d2, d3, d4] => { results := [.lit (.bool false)], args := [d1, d2, d3, d4] }
  | _ => none }
def SimplexMoveTightensWrongFalsely : Prop := simplexMoveTightensRow.holds Try.pinned (OpenSpec.ofChange simplexMoveTightensWrong)

/-- 'railplanlaw16.SimplexImproves': WHATEVER THE INPUT: true; the input reads as it did. -/
def simplexImprovesSpec : ChangeSpec := { name := "simplexImproves", fn := fun _ => fun
  | [d1, d2, d3] => { results := [.lit (.bool true)], args := [d1, d2, d3] }
  | _ => none }
def simplexImprovesRow : OpenClaim := { program := "ytgekfafangcggaa", sum := "b35f1b458008e0d25abf0c32884826573f3d4b2193830e4eac77c081824a9bfd", func := "railplan/railplanlaw16.SimplexImproves", spec := "simplexImproves", recurses := true, apart := false }
def SimplexImprovesSaid : Prop := simplexImprovesRow.holds Try.pinned (OpenSpec.ofChange simplexImprovesSpec)

/-- ITS FALSE NEIGHBOUR: 'it returns false'. Refute it at one input. -/
def simplexImprovesWrong : ChangeSpec := { name := "simplexImproves", fn := fun _ => fun
  | [d1, d2, d3] => { results := [.lit (.bool false)], args := [d1, d2, d3] }
  | _ => none }
def SimplexImprovesWrongFalsely : Prop := simplexImprovesRow.holds Try.pinned (OpenSpec.ofChange simplexImprovesWrong)

/-- 'railplanlaw16.SimplexEndsLocally': WHATEVER THE INPUT: true; the input reads as it did. -/
def simplexEndsLocallySpec : ChangeSpec := { name := "simplexEndsLocally", fn := fun _ => fun
  | [d1, d2, d3] => { results := [.lit (.bool true)], args := [d1, d2, d3] }
  | _ => none }
def simplexEndsLocallyRow : OpenClaim := { program := "ytgekfafangcggaa", sum := "b35f1b458008e0d25abf0c32884826573f3d4b2193830e4eac77c081824a9bfd", func := "railplan/railplanlaw16.SimplexEndsLocally", spec := "simplexEndsLocally", recurses := true, apart := false }
def SimplexEndsLocallySaid : Prop := simplexEndsLocallyRow.holds Try.pinned (OpenSpec.ofChange simplexEndsLocallySpec)

/-- ITS FALSE NEIGHBOUR: 'it returns false'. Refute it at one input. -/
def simplexEndsLocallyWrong : ChangeSpec := { name := "simplexEndsLocally", fn := fun _ => fun
  | [d1, d2, d3] => { results := [.lit (.bool false)], args := [d1, d2, d3] }
  | _ => none }
def SimplexEndsLocallyWrongFalsely : Prop := simplexEndsLocallyRow.holds Try.pinned (OpenSpec.ofChange simplexEndsLocallyWrong)

/-- 'railplanlaw16.SimplexKeepsArguments': WHATEVER THE INPUT: true; the input reads as it did. -/
def simplexKeepsArgumentsSpec : ChangeSpec := { name := "simplexKeepsArguments", fn := fun _ => fun
  | [d1, d2, d3, d4, d5] => { results := [.lit (.bool true)], args := [d1, d2, d3, d4, d5] }
  | _ => none }
def simplexKeepsArgumentsRow : OpenClaim := { program := "ytgekfafangcggaa", sum := "b35f1b458008e0d25abf0c32884826573f3d4b2193830e4eac77c081824a9bfd", func := "railplan/railplanlaw16.SimplexKeepsArguments", spec := "simplexKeepsArguments", recurses := true, apart := false }
def SimplexKeepsArgumentsSaid : Prop := simplexKeepsArgumentsRow.holds Try.pinned (OpenSpec.ofChange simplexKeepsArgumentsSpec)

/-- ITS FALSE NEIGHBOUR: 'it returns false'. Refute it at one input. -/
def simplexKeepsArgumentsWrong : ChangeSpec := { name := "simplexKeepsArguments", fn := fun _ => fun
  | [d1, d2, d3, d4, d5] => { results := [.lit (.bool false)], args := [d1, d2, d3, d4, d5] }
  | _ => none }
def SimplexKeepsArgumentsWrongFalsely : Prop := simplexKeepsArgumentsRow.holds Try.pinned (OpenSpec.ofChange simplexKeepsArgumentsWrong)

/-- 'railplanlaw16.SimplexRaw': WHATEVER THE INPUT: true; the input reads as it did. -/
def simplexRawSpec : ChangeSpec := { name := "simplexRaw", fn := fun _ => fun
  | [d1, d2, d3, d4, d5, d6] => { results := [.lit (.bool true)], args := [d1, d2, d3, d4, d5, d6] }
  | _ => none }
def simplexRawRow : OpenClaim := { program := "ytgekfafangcggaa", sum := "b35f1b458008e0d25abf0c32884826573f3d4b2193830e4eac77c081824a9bfd", func := "railplan/railplanlaw16.SimplexRaw", spec := "simplexRaw", recurses := true, apart := false }
def SimplexRawSaid : Prop := simplexRawRow.holds Try.pinned (OpenSpec.ofChange simplexRawSpec)

/-- ITS FALSE NEIGHBOUR: 'it returns false'. Refute it at one input. -/
def simplexRawWrong : ChangeSpec := { name := "simplexRaw", fn := fun _ => fun
  | [d1, d2, d3, d4, d5, d6] => { results := [.lit (.bool false)], args := [d1, d2, d3, d4, d5, d6] }
  | _ => none }
def SimplexRawWrongFalsely : Prop := simplexRawRow.holds Try.pinned (OpenSpec.ofChange simplexRawWrong)

/-- 'railplanlaw16.SimplexGenerated': WHATEVER THE INPUT: true; the input reads as it did. -/
def simplexGeneratedSpec : ChangeSpec := { name := "simplexGenerated", fn := fun _ => fun
  | [d1, d2, d3, d4, d5] => { results := [.lit (.bool true)], args := [d1, d2, d3, d4, d5] }
  | _ => none }
def simplexGeneratedRow : OpenClaim := { program := "ytgekfafangcggaa", sum := "b35f1b458008e0d25abf0c32884826573f3d4b2193830e4eac77c081824a9bfd", func := "railplan/railplanlaw16.SimplexGenerated", spec := "simplexGenerated", recurses := true, apart := false }
def SimplexGeneratedSaid : Prop := simplexGeneratedRow.holds Try.pinned (OpenSpec.ofChange simplexGeneratedSpec)

/-- ITS FALSE NEIGHBOUR: 'it returns false'. Refute it at one input. -/
def simplexGeneratedWrong : ChangeSpec := { name := "simplexGenerated", fn := fun _ => fun
  | [d1, d2, d3, d4, d5] => { results := [.lit (.bool false)], args := [d1, d2, d3, d4, d5] }
  | _ => none }
def SimplexGeneratedWrongFalsely : Prop := simplexGeneratedRow.holds Try.pinned (OpenSpec.ofChange simplexGeneratedWrong)

/-- 'railplanlaw16.SimplexWide': WHATEVER THE INPUT: true; the input reads as it did. -/
def simplexWideSpec : ChangeSpec := { name := "simplexWide", fn := fun _ => fun
  | [d1, d2, d3, d4, d5] => { results := [.lit (.bool true)], args := [d1, d2, d3, d4, d5] }
  | _ => none }
def simplexWideRow : OpenClaim := { program := "ytgekfafangcggaa", sum := "b35f1b458008e0d25abf0c32884826573f3d4b2193830e4eac77c081824a9bfd", func := "railplan/railplanlaw16.SimplexWide", spec := "simplexWide", recurses := true, apart := false }
def SimplexWideSaid : Prop := simplexWideRow.holds Try.pinned (OpenSpec.ofChange simplexWideSpec)

/-- ITS FALSE NEIGHBOUR: 'it returns false'. Refute it at one input. -/
def simplexWideWrong : ChangeSpec := { name := "simplexWide", fn := fun _ => fun
  | [d1, d2, d3, d4, d5] => { results := [.lit (.bool false)], args := [d1, d2, d3, d4, d5] }
  | _ => none }
def SimplexWideWrongFalsely : Prop := simplexWideRow.holds Try.pinned (OpenSpec.ofChange simplexWideWrong)

/- THE SECOND FORM. 'bulk': how many values and letters a reading holds, each counted each time it is reached (what is shared counts as often as it is met; a slice's spare places count too). A statement '..UptoSaid' is the law's where the arguments, and the package variables that the reading takes, are together of bulk at most 1048576: NARROWER than '..Said'. Prove '..Said' where nothing that the law and all that it calls make is longer than what came in: it says more and counts as full. Else prove '..UptoSaid'. A law counts once. -/
mutual
def uptoBulk {H : Type} : DataW H → Nat
  | .lit (.string bytes) => bytes.length + 1
  | .lit _ => 1
  | .nil => 1
  | .ptr d => uptoBulk d + 1
  | .slice elems spare => uptoBulkAll elems + uptoBulkAll spare + 1
  | .agg parts => uptoBulkAll parts + 1
  | .iface _ d => uptoBulk d + 1
  | .map entries => uptoBulkEntries entries + 1
  | .held _ => 1
def uptoBulkAll {H : Type} : List (DataW H) → Nat
  | [] => 0
  | d :: r => uptoBulk d + uptoBulkAll r
def uptoBulkEntries {H : Type} : List (Lit × DataW H) → Nat
  | [] => 0
  | x :: r => uptoBulkEntry x + uptoBulkEntries r
def uptoBulkEntry {H : Type} : Lit × DataW H → Nat
  | (.string bytes, d) => bytes.length + uptoBulk d + 1
  | (_, d) => uptoBulk d + 1
 end
def uptoSmall : (H : Type) → List (DataW H) → Bool := fun _ ds => decide (uptoBulkAll ds ≤ 1048576)
def OpenSpec.upto (s : _root_.Go.ChangeSpec) : _root_.Go.OpenSpec := { _root_.Go.OpenSpec.ofChange s with cond := some uptoSmall }

/-- 'railplanlaw16.SimplexCutSplits', WHERE WHAT IT READS IS OF BULK AT MOST 1048576: true; the input reads as it did. -/
def simplexCutSplitsUptoRow : OpenClaim := { program := "ytgekfafangcggaa", sum := "b35f1b458008e0d25abf0c32884826573f3d4b2193830e4eac77c081824a9bfd", func := "railplan/railplanlaw16.SimplexCutSplits", spec := "simplexCutSplits", apart := false, narrowed := true }
def SimplexCutSplitsUptoSaid : Prop := simplexCutSplitsUptoRow.holds Try.pinned (OpenSpec.upto simplexCutSplitsSpec)

/-- 'railplanlaw16.SimplexExamples', WHERE WHAT IT READS IS OF BULK AT MOST 1048576: true; the input reads as it did. -/
def simplexExamplesUptoRow : OpenClaim := { program := "ytgekfafangcggaa", sum := "b35f1b458008e0d25abf0c32884826573f3d4b2193830e4eac77c081824a9bfd", func := "railplan/railplanlaw16.SimplexExamples", spec := "simplexExamples", recurses := true, apart := false, narrowed := true }
def SimplexExamplesUptoSaid : Prop := simplexExamplesUptoRow.holds Try.pinned (OpenSpec.upto simplexExamplesSpec)

/-- 'railplanlaw16.SimplexMoveTightens', WHERE WHAT IT READS IS OF BULK AT MOST 1048576: true; the input reads as it did. -/
def simplexMoveTightensUptoRow : OpenClaim := { program := "ytgekfafangcggaa", sum := "b35f1b458008e0d25abf0c32884826573f3d4b2193830e4eac77c081824a9bfd", func := "railplan/railplanlaw16.SimplexMoveTightens", spec := "simplexMoveTightens", recurses := true, apart := false, narrowed := true }
def SimplexMoveTightensUptoSaid : Prop := simplexMoveTightensUptoRow.holds Try.pinned (OpenSpec.upto simplexMoveTightensSpec)

/-- 'railplanlaw16.SimplexImproves', WHERE WHAT IT READS IS OF BULK AT MOST 1048576: true; the input reads as it did. -/
def simplexImprovesUptoRow : OpenClaim := { program := "ytgekfafangcggaa", sum := "b35f1b458008e0d25abf0c32884826573f3d4b2193830e4eac77c081824a9bfd", func := "railplan/railplanlaw16.SimplexImproves", spec := "simplexImproves", recurses := true, apart := false, narrowed := true }
def SimplexImprovesUptoSaid : Prop := simplexImprovesUptoRow.holds Try.pinned (OpenSpec.upto simplexImprovesSpec)

/-- 'railplanlaw16.SimplexEndsLocally', WHERE WHAT IT READS IS OF BULK AT MOST 1048576: true; the input reads as it did. -/
def simplexEndsLocallyUptoRow : OpenClaim := { program := "ytgekfafangcggaa", sum := "b35f1b458008e0d25abf0c32884826573f3d4b2193830e4eac77c081824a9bfd", func := "railplan/railplanlaw16.SimplexEndsLocally", spec := "simplexEndsLocally", recurses := true, apart := false, narrowed := true }
def SimplexEndsLocallyUptoSaid : Prop := simplexEndsLocallyUptoRow.holds Try.pinned (OpenSpec.upto simplexEndsLocallySpec)

/-- 'railplanlaw16.SimplexKeepsArguments', WHERE WHAT IT READS IS OF BULK AT MOST 1048576: true; the input reads as it did. -/
def simplexKeepsArgumentsUptoRow : OpenClaim := { program := "ytgekfafangcggaa", sum := "b35f1b458008e0d25abf0c32884826573f3d4b2193830e4eac77c081824a9bfd", func := "railplan/railplanlaw16.SimplexKeepsArguments", spec := "simplexKeepsArguments", recurses := true, apart := false, narrowed := true }
def SimplexKeepsArgumentsUptoSaid : Prop := simplexKeepsArgumentsUptoRow.holds Try.pinned (OpenSpec.upto simplexKeepsArgumentsSpec)

/-- 'railplanlaw16.SimplexRaw', WHERE WHAT IT READS IS OF BULK AT MOST 1048576: true; the input reads as it did. -/
def simplexRawUptoRow : OpenClaim := { program := "ytgekfafangcggaa", sum := "b35f1b458008e0d25abf0c32884826573f3d4b2193830e4eac77c081824a9bfd", func := "railplan/railplanlaw16.SimplexRaw", spec := "simplexRaw", recurses := true, apart := false, narrowed := true }
def SimplexRawUptoSaid : Prop := simplexRawUptoRow.holds Try.pinned (OpenSpec.upto simplexRawSpec)

/-- 'railplanlaw16.SimplexGenerated', WHERE WHAT IT READS IS OF BULK AT MOST 1048576: true; the input reads as it did. -/
def simplexGeneratedUptoRow : OpenClaim := { program := "ytgekfafangcggaa", sum := "b35f1b458008e0d25abf0c32884826573f3d4b2193830e4eac77c081824a9bfd", func := "railplan/railplanlaw16.SimplexGenerated", spec := "simplexGenerated", recurses := true, apart := false, narrowed := true }
def SimplexGeneratedUptoSaid : Prop := simplexGeneratedUptoRow.holds Try.pinned (OpenSpec.upto simplexGeneratedSpec)

/-- 'railplanlaw16.SimplexWide', WHERE WHAT IT READS IS OF BULK AT MOST 1048576: true; the input reads as it did. -/
def simplexWideUptoRow : OpenClaim := { program := "ytgekfafangcggaa", sum := "b35f1b458008e0d25abf0c32884826573f3d4b2193830e4eac77c081824a9bfd", func := "railplan/railplanlaw16.SimplexWide", spec := "simplexWide", recurses := true, apart := false, narrowed := true }
def SimplexWideUptoSaid : Prop := simplexWideUptoRow.holds Try.pinned (OpenSpec.upto simplexWideSpec)

end Rows
end Go.Proofs.Ytgekfafangcggaa
