/-
  No cell of these rows narrows 'for every input' (looked for: loops, veiled, ifaces, maps, wideKeys, modest, calm, conditions, laid).
  DERIVED. THE GIVEN ROWS OF THIS SEAT. 9 by the template 'for every input the law returns true; each argument reads behind the call as it read before'; 0 by the template 'total and deterministic' (their statements: YtdgkaahghlbocaaTotals.lean).
  GIVEN WITH THE SEED: the statements are not yours to turn. If you find one false, say at which input.
  Laid BY PROGRAM, IN A SANDBOX (cutbox-rows.mjs): the forced cells as the released guide's own fill.sh prints them over the translation 4a09e5f3b382ec92… (all of the seat's roots in one cut). By AI agents, Wed Nov 11 2026. No macro, syntax, notation, axiom, sorry.
-/
import Derived.Test.YtdgkaahghlbocaaChecked
import GoSem.Claim
import GoSem.ClaimJoined
import GoSem.ClaimMapViews
import Derived.JoinedTies
import Derived.KernelRfl
namespace Go.Proofs.Ytdgkaahghlbocaa
/- THE CELL 'sum', in the pinned program and in every row, IS THE sha256 OF THE DUMP (.gsa) THAT YtdgkaahghlbocaaProg.lean LOADS. Nothing in Lean hashes anything: it is a label: what it is worth is what the hold of that sum in a sandbox is worth. -/
noncomputable def Try.pinned : Pinned := { name := "ytdgkaahghlbocaa", sum := "4a09e5f3b382ec9216021a54cfdbf94c45b1d7f7ec0b22b78cefbdfa22220adc", checked := Try.checked }
namespace Rows
def none {H : Type} : Left H := { results := [], args := [] }

/-- 'railplanlaw12.CyclesClosedValues': WHATEVER THE INPUT: true; the input reads as it did. -/
def cyclesClosedValuesSpec : ChangeSpec := { name := "cyclesClosedValues", fn := fun _ => fun
  | [d1, d2] => { results := [.lit (.bool true)], args := [d1, d2] }
  | _ => none }
def cyclesClosedValuesRow : OpenClaim := { program := "ytdgkaahghlbocaa", sum := "4a09e5f3b382ec9216021a54cfdbf94c45b1d7f7ec0b22b78cefbdfa22220adc", func := "railplan/railplanlaw12.CyclesClosedValues", spec := "cyclesClosedValues", unfollowed := true, recurses := true, apart := false }
def CyclesClosedValuesSaid : Prop := cyclesClosedValuesRow.holds Try.pinned (OpenSpec.ofChange cyclesClosedValuesSpec)

/-- ITS FALSE NEIGHBOUR: 'it returns false'. Refute it at one input. -/
def cyclesClosedValuesWrong : ChangeSpec := { name := "cyclesClosedValues", fn := fun _ => fun
  | [d1, d2] => { results := [.lit (.bool false)], args := [d1, d2] }
  | _ => none }
def CyclesClosedValuesWrongFalsely : Prop := cyclesClosedValuesRow.holds Try.pinned (OpenSpec.ofChange cyclesClosedValuesWrong)

/-- 'railplanlaw12.CyclesSums': WHATEVER THE INPUT: true; the input reads as it did. -/
def cyclesSumsSpec : ChangeSpec := { name := "cyclesSums", fn := fun _ => fun
  | [d1, d2, d3, d4, d5, d6] => { results := [.lit (.bool true)], args := [d1, d2, d3, d4, d5, d6] }
  | _ => none }
def cyclesSumsRow : OpenClaim := { program := "ytdgkaahghlbocaa", sum := "4a09e5f3b382ec9216021a54cfdbf94c45b1d7f7ec0b22b78cefbdfa22220adc", func := "railplan/railplanlaw12.CyclesSums", spec := "cyclesSums", apart := false }
def CyclesSumsSaid : Prop := cyclesSumsRow.holds Try.pinned (OpenSpec.ofChange cyclesSumsSpec)

/-- ITS FALSE NEIGHBOUR: 'it returns false'. Refute it at one input. -/
def cyclesSumsWrong : ChangeSpec := { name := "cyclesSums", fn := fun _ => fun
  | [d1, d2, d3, d4, d5, d6] => { results := [.lit (.bool false)], args := [d1, d2, d3, d4, d5, d6] }
  | _ => none }
def CyclesSumsWrongFalsely : Prop := cyclesSumsRow.holds Try.pinned (OpenSpec.ofChange cyclesSumsWrong)

/-- 'railplanlaw12.CyclesPeriodicity': WHATEVER THE INPUT: true; the input reads as it did. -/
def cyclesPeriodicitySpec : ChangeSpec := { name := "cyclesPeriodicity", fn := fun _ => fun
  | [d1, d2, d3] => { results := [.lit (.bool true)], args := [d1, d2, d3] }
  | _ => none }
def cyclesPeriodicityRow : OpenClaim := { program := "ytdgkaahghlbocaa", sum := "4a09e5f3b382ec9216021a54cfdbf94c45b1d7f7ec0b22b78cefbdfa22220adc", func := "railplan/railplanlaw12.CyclesPeriodicity", spec := "cyclesPeriodicity", apart := false }
def CyclesPeriodicitySaid : Prop := cyclesPeriodicityRow.holds Try.pinned (OpenSpec.ofChange cyclesPeriodicitySpec)

/-- ITS FALSE NEIGHBOUR: 'it returns false'. Refute it at one input. -/
def cyclesPeriodicityWrong : ChangeSpec := { name := "cyclesPeriodicity", fn := fun _ => fun
  | [d1, d2, d3] => { results := [.lit (.bool false)], args := [d1, d2, d3] }
  | _ => none }
def CyclesPeriodicityWrongFalsely : Prop := cyclesPeriodicityRow.holds Try.pinned (OpenSpec.ofChange cyclesPeriodicityWrong)

/-- 'railplanlaw12.CyclesComponents': WHATEVER THE INPUT: true; the input reads as it did. -/
def cyclesComponentsSpec : ChangeSpec := { name := "cyclesComponents", fn := fun _ => fun
  | [d] => { results := [.lit (.bool true)], args := [d] }
  | _ => none }
def cyclesComponentsRow : OpenClaim := { program := "ytdgkaahghlbocaa", sum := "4a09e5f3b382ec9216021a54cfdbf94c45b1d7f7ec0b22b78cefbdfa22220adc", func := "railplan/railplanlaw12.CyclesComponents", spec := "cyclesComponents", unfollowed := true, recurses := true, apart := false }
def CyclesComponentsSaid : Prop := cyclesComponentsRow.holds Try.pinned (OpenSpec.ofChange cyclesComponentsSpec)

/-- ITS FALSE NEIGHBOUR: 'it returns false'. Refute it at one input. -/
def cyclesComponentsWrong : ChangeSpec := { name := "cyclesComponents", fn := fun _ => fun
  | [d] => { results := [.lit (.bool false)], args := [d] }
  | _ => none }
def CyclesComponentsWrongFalsely : Prop := cyclesComponentsRow.holds Try.pinned (OpenSpec.ofChange cyclesComponentsWrong)

/-- 'railplanlaw12.CyclesExamples': WHATEVER THE INPUT: true; the input reads as it did. -/
def cyclesExamplesSpec : ChangeSpec := { name := "cyclesExamples", fn := fun _ => fun
  | [] => { results := [.lit (.bool true)], args := [] }
  | _ => none }
def cyclesExamplesRow : OpenClaim := { program := "ytdgkaahghlbocaa", sum := "4a09e5f3b382ec9216021a54cfdbf94c45b1d7f7ec0b22b78cefbdfa22220adc", func := "railplan/railplanlaw12.CyclesExamples", spec := "cyclesExamples", unfollowed := true, recurses := true, apart := false }
def CyclesExamplesSaid : Prop := cyclesExamplesRow.holds Try.pinned (OpenSpec.ofChange cyclesExamplesSpec)

/-- ITS FALSE NEIGHBOUR: 'it returns false'. Refute it at one input. -/
def cyclesExamplesWrong : ChangeSpec := { name := "cyclesExamples", fn := fun _ => fun
  | [] => { results := [.lit (.bool false)], args := [] }
  | _ => none }
def CyclesExamplesWrongFalsely : Prop := cyclesExamplesRow.holds Try.pinned (OpenSpec.ofChange cyclesExamplesWrong)

/-- 'railplanlaw12.CyclesPotentialsInvertTensions': WHATEVER THE INPUT: true; the input reads as it did. -/
def cyclesPotentialsInvertTensionsSpec : ChangeSpec := { name := "cyclesPotentialsInvertTensions", fn := fun _ => fun
  | [d1, d2] => { results := [.lit (.bool true)], args := [d1, d2] }
  | _ => none }
def cyclesPotentialsInvertTensionsRow : OpenClaim := { program := "ytdgkaahghlbocaa", sum := "4a09e5f3b382ec9216021a54cfdbf94c45b1d7f7ec0b22b78cefbdfa22220adc", func := "railplan/railplanlaw12.CyclesPotentialsInvertTensions", spec := "cyclesPotentialsInvertTensions", unfollowed := true, recurses := true, apart := false }
def CyclesPotentialsInvertTensionsSaid : Prop := cyclesPotentialsInvertTensionsRow.holds Try.pinned (OpenSpec.ofChange cyclesPotentialsInvertTensionsSpec)

/-- ITS FALSE NEIGHBOUR: 'it returns false'. Refute it at one input. -/
def cyclesPotentialsInvertTensionsWrong : ChangeSpec := { name := "cyclesPotentialsInvertTensions", fn := fun _ => fun
  | [d1, d2] => { results := [.lit (.bool false)], args := [d1, d2] }
  | _ => none }
def CyclesPotentialsInvertTensionsWrongFalsely : Prop := cyclesPotentialsInvertTensionsRow.holds Try.pinned (OpenSpec.ofChange cyclesPotentialsInvertTensionsWrong)

/-- 'railplanlaw12.CyclesTreeIsLeast': WHATEVER THE INPUT: true; the input reads as it did. -/
def cyclesTreeIsLeastSpec : ChangeSpec := { name := "cyclesTreeIsLeast", fn := fun _ => fun
  | [d] => { results := [.lit (.bool true)], args := [d] }
  | _ => none }
def cyclesTreeIsLeastRow : OpenClaim := { program := "ytdgkaahghlbocaa", sum := "4a09e5f3b382ec9216021a54cfdbf94c45b1d7f7ec0b22b78cefbdfa22220adc", func := "railplan/railplanlaw12.CyclesTreeIsLeast", spec := "cyclesTreeIsLeast", unfollowed := true, recurses := true, apart := false }
def CyclesTreeIsLeastSaid : Prop := cyclesTreeIsLeastRow.holds Try.pinned (OpenSpec.ofChange cyclesTreeIsLeastSpec)

/-- ITS FALSE NEIGHBOUR: 'it returns false'. Refute it at one input. -/
def cyclesTreeIsLeastWrong : ChangeSpec := { name := "cyclesTreeIsLeast", fn := fun _ => fun
  | [d] => { results := [.lit (.bool false)], args := [d] }
  | _ => none }
def CyclesTreeIsLeastWrongFalsely : Prop := cyclesTreeIsLeastRow.holds Try.pinned (OpenSpec.ofChange cyclesTreeIsLeastWrong)

/-- 'railplanlaw12.CyclesForests': WHATEVER THE INPUT: true; the input reads as it did. -/
def cyclesForestsSpec : ChangeSpec := { name := "cyclesForests", fn := fun _ => fun
  | [d1, d2, d3] => { results := [.lit (.bool true)], args := [d1, d2, d3] }
  | _ => none }
def cyclesForestsRow : OpenClaim := { program := "ytdgkaahghlbocaa", sum := "4a09e5f3b382ec9216021a54cfdbf94c45b1d7f7ec0b22b78cefbdfa22220adc", func := "railplan/railplanlaw12.CyclesForests", spec := "cyclesForests", unfollowed := true, recurses := true, apart := false }
def CyclesForestsSaid : Prop := cyclesForestsRow.holds Try.pinned (OpenSpec.ofChange cyclesForestsSpec)

/-- ITS FALSE NEIGHBOUR: 'it returns false'. Refute it at one input. -/
def cyclesForestsWrong : ChangeSpec := { name := "cyclesForests", fn := fun _ => fun
  | [d1, d2, d3] => { results := [.lit (.bool false)], args := [d1, d2, d3] }
  | _ => none }
def CyclesForestsWrongFalsely : Prop := cyclesForestsRow.holds Try.pinned (OpenSpec.ofChange cyclesForestsWrong)

/-- 'railplanlaw12.CyclesRaw': WHATEVER THE INPUT: true; the input reads as it did. -/
def cyclesRawSpec : ChangeSpec := { name := "cyclesRaw", fn := fun _ => fun
  | [d1, d2, d3, d4, d5] => { results := [.lit (.bool true)], args := [d1, d2, d3, d4, d5] }
  | _ => none }
def cyclesRawRow : OpenClaim := { program := "ytdgkaahghlbocaa", sum := "4a09e5f3b382ec9216021a54cfdbf94c45b1d7f7ec0b22b78cefbdfa22220adc", func := "railplan/railplanlaw12.CyclesRaw", spec := "cyclesRaw", unfollowed := true, recurses := true, apart := false }
def CyclesRawSaid : Prop := cyclesRawRow.holds Try.pinned (OpenSpec.ofChange cyclesRawSpec)

/-- ITS FALSE NEIGHBOUR: 'it returns false'. Refute it at one input. -/
def cyclesRawWrong : ChangeSpec := { name := "cyclesRaw", fn := fun _ => fun
  | [d1, d2, d3, d4, d5] => { results := [.lit (.bool false)], args := [d1, d2, d3, d4, d5] }
  | _ => none }
def CyclesRawWrongFalsely : Prop := cyclesRawRow.holds Try.pinned (OpenSpec.ofChange cyclesRawWrong)

/- THE SECOND FORM. 'bulk': how many values and letters a reading holds, each counted each time it is reached (what is shared counts as often as it is met; a slice's spare places count too). A statement '..UptoSaid' is the law's where the arguments, and the package variables that the reading takes, are together of bulk at most 1048576: NARROWER than '..Said'. Prove '..Said' where nothing that the law and all that it calls make is longer than what came in: it says more and counts as full. Else prove '..UptoSaid'. A law counts once. -/
mutual
def uptoBulk {H : Type} : DataW H → Nat
  | .lit (.string bytes) => bytes.length + 1
  | .lit _ => 1
  | .nil => 1
  | .ptr d => uptoBulk d + 1
  | .slice elems spare => uptoBulkAll elems + uptoBulkAll spare + 1
  | .agg parts => uptoBulkAll parts + 1
  | .iface _ d => uptoBulk d + 1
  | .map entries => uptoBulkEntries entries + 1
  | .held _ => 1
def uptoBulkAll {H : Type} : List (DataW H) → Nat
  | [] => 0
  | d :: r => uptoBulk d + uptoBulkAll r
def uptoBulkEntries {H : Type} : List (Lit × DataW H) → Nat
  | [] => 0
  | x :: r => uptoBulkEntry x + uptoBulkEntries r
def uptoBulkEntry {H : Type} : Lit × DataW H → Nat
  | (.string bytes, d) => bytes.length + uptoBulk d + 1
  | (_, d) => uptoBulk d + 1
 end
def uptoSmall : (H : Type) → List (DataW H) → Bool := fun _ ds => decide (uptoBulkAll ds ≤ 1048576)
def OpenSpec.upto (s : _root_.Go.ChangeSpec) : _root_.Go.OpenSpec := { _root_.Go.OpenSpec.ofChange s with cond := some uptoSmall }

/-- 'railplanlaw12.CyclesClosedValues', WHERE WHAT IT READS IS OF BULK AT MOST 1048576: true; the input reads as it did. -/
def cyclesClosedValuesUptoRow : OpenClaim := { program := "ytdgkaahghlbocaa", sum := "4a09e5f3b382ec9216021a54cfdbf94c45b1d7f7ec0b22b78cefbdfa22220adc", func := "railplan/railplanlaw12.CyclesClosedValues", spec := "cyclesClosedValues", unfollowed := true, recurses := true, apart := false, narrowed := true }
def CyclesClosedValuesUptoSaid : Prop := cyclesClosedValuesUptoRow.holds Try.pinned (OpenSpec.upto cyclesClosedValuesSpec)

/-- 'railplanlaw12.CyclesSums', WHERE WHAT IT READS IS OF BULK AT MOST 1048576: true; the input reads as it did. -/
def cyclesSumsUptoRow : OpenClaim := { program := "ytdgkaahghlbocaa", sum := "4a09e5f3b382ec9216021a54cfdbf94c45b1d7f7ec0b22b78cefbdfa22220adc", func := "railplan/railplanlaw12.CyclesSums", spec := "cyclesSums", apart := false, narrowed := true }
def CyclesSumsUptoSaid : Prop := cyclesSumsUptoRow.holds Try.pinned (OpenSpec.upto cyclesSumsSpec)

/-- 'railplanlaw12.CyclesPeriodicity', WHERE WHAT IT READS IS OF BULK AT MOST 1048576: true; the input reads as it did. -/
def cyclesPeriodicityUptoRow : OpenClaim := { program := "ytdgkaahghlbocaa", sum := "4a09e5f3b382ec9216021a54cfdbf94c45b1d7f7ec0b22b78cefbdfa22220adc", func := "railplan/railplanlaw12.CyclesPeriodicity", spec := "cyclesPeriodicity", apart := false, narrowed := true }
def CyclesPeriodicityUptoSaid : Prop := cyclesPeriodicityUptoRow.holds Try.pinned (OpenSpec.upto cyclesPeriodicitySpec)

/-- 'railplanlaw12.CyclesComponents', WHERE WHAT IT READS IS OF BULK AT MOST 1048576: true; the input reads as it did. -/
def cyclesComponentsUptoRow : OpenClaim := { program := "ytdgkaahghlbocaa", sum := "4a09e5f3b382ec9216021a54cfdbf94c45b1d7f7ec0b22b78cefbdfa22220adc", func := "railplan/railplanlaw12.CyclesComponents", spec := "cyclesComponents", unfollowed := true, recurses := true, apart := false, narrowed := true }
def CyclesComponentsUptoSaid : Prop := cyclesComponentsUptoRow.holds Try.pinned (OpenSpec.upto cyclesComponentsSpec)

/-- 'railplanlaw12.CyclesExamples', WHERE WHAT IT READS IS OF BULK AT MOST 1048576: true; the input reads as it did. -/
def cyclesExamplesUptoRow : OpenClaim := { program := "ytdgkaahghlbocaa", sum := "4a09e5f3b382ec9216021a54cfdbf94c45b1d7f7ec0b22b78cefbdfa22220adc", func := "railplan/railplanlaw12.CyclesExamples", spec := "cyclesExamples", unfollowed := true, recurses := true, apart := false, narrowed := true }
def CyclesExamplesUptoSaid : Prop := cyclesExamplesUptoRow.holds Try.pinned (OpenSpec.upto cyclesExamplesSpec)

/-- 'railplanlaw12.CyclesPotentialsInvertTensions', WHERE WHAT IT READS IS OF BULK AT MOST 1048576: true; the input reads as it did. -/
def cyclesPotentialsInvertTensionsUptoRow : OpenClaim := { program := "ytdgkaahghlbocaa", sum := "4a09e5f3b382ec9216021a54cfdbf94c45b1d7f7ec0b22b78cefbdfa22220adc", func := "railplan/railplanlaw12.CyclesPotentialsInvertTensions", spec := "cyclesPotentialsInvertTensions", unfollowed := true, recurses := true, apart := false, narrowed := true }
def CyclesPotentialsInvertTensionsUptoSaid : Prop := cyclesPotentialsInvertTensionsUptoRow.holds Try.pinned (OpenSpec.upto cyclesPotentialsInvertTensionsSpec)

/-- 'railplanlaw12.CyclesTreeIsLeast', WHERE WHAT IT READS IS OF BULK AT MOST 1048576: true; the input reads as it did. -/
def cyclesTreeIsLeastUptoRow : OpenClaim := { program := "ytdgkaahghlbocaa", sum := "4a09e5f3b382ec9216021a54cfdbf94c45b1d7f7ec0b22b78cefbdfa22220adc", func := "railplan/railplanlaw12.CyclesTreeIsLeast", spec := "cyclesTreeIsLeast", unfollowed := true, recurses := true, apart := false, narrowed := true }
def CyclesTreeIsLeastUptoSaid : Prop := cyclesTreeIsLeastUptoRow.holds Try.pinned (OpenSpec.upto cyclesTreeIsLeastSpec)

/-- 'railplanlaw12.CyclesForests', WHERE WHAT IT READS IS OF BULK AT MOST 1048576: true; the input reads as it did. -/
def cyclesForestsUptoRow : OpenClaim := { program := "ytdgkaahghlbocaa", sum := "4a09e5f3b382ec9216021a54cfdbf94c45b1d7f7ec0b22b78cefbdfa22220adc", func := "railplan/railplanlaw12.CyclesForests", spec := "cyclesForests", unfollowed := true, recurses := true, apart := false, narrowed := true }
def CyclesForestsUptoSaid : Prop := cyclesForestsUptoRow.holds Try.pinned (OpenSpec.upto cyclesForestsSpec)

/-- 'railplanlaw12.CyclesRaw', WHERE WHAT IT READS IS OF BULK AT MOST 1048576: true; the input reads as it did. -/
def cyclesRawUptoRow : OpenClaim := { program := "ytdgkaahghlbocaa", sum := "4a09e5f3b382ec9216021a54cfdbf94c45b1d7f7ec0b22b78cefbdfa22220adc", func := "railplan/railplanlaw12.CyclesRaw", spec := "cyclesRaw", unfollowed := true, recurses := true, apart := false, narrowed := true }
def CyclesRawUptoSaid : Prop := cyclesRawUptoRow.holds Try.pinned (OpenSpec.upto cyclesRawSpec)

end Rows
end Go.Proofs.Ytdgkaahghlbocaa
