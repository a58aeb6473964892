/-
  No cell of these rows narrows 'for every input' (looked for: loops, veiled, ifaces, maps, wideKeys, modest, calm, conditions, laid).
  DERIVED. THE GIVEN ROWS OF THIS SEAT. 10 by the template 'for every input the law returns true; each argument reads behind the call as it read before'; 0 by the template 'total and deterministic' (their statements: YteicgnmggkhlbaaTotals.lean).
  GIVEN WITH THE SEED: the statements are not yours to turn. If you find one false, say at which input.
  Laid BY PROGRAM, IN A SANDBOX (cutbox-rows.mjs): the forced cells as the released guide's own fill.sh prints them over the translation fad1a62e4939c0b0… (all of the seat's roots in one cut). By AI agents, Wed Nov 11 2026. No macro, syntax, notation, axiom, sorry.
-/
import Derived.Test.YteicgnmggkhlbaaChecked
import GoSem.Claim
import GoSem.ClaimJoined
import GoSem.ClaimMapViews
import Derived.JoinedTies
import Derived.KernelRfl
namespace Go.Proofs.Yteicgnmggkhlbaa
/- THE CELL 'sum', in the pinned program and in every row, IS THE sha256 OF THE DUMP (.gsa) THAT YteicgnmggkhlbaaProg.lean LOADS. Nothing in Lean hashes anything: it is a label: what it is worth is what the hold of that sum in a sandbox is worth. -/
noncomputable def Try.pinned : Pinned := { name := "yteicgnmggkhlbaa", sum := "fad1a62e4939c0b09478bda48629d071b7f51d4cfe8d2cc2b0bc9f3c7238aafe", checked := Try.checked }
namespace Rows
def none {H : Type} : Left H := { results := [], args := [] }

/-- 'railplanlaw36.DeadlockComplete': WHATEVER THE INPUT: true; the input reads as it did. -/
def deadlockCompleteSpec : ChangeSpec := { name := "deadlockComplete", fn := fun _ => fun
  | [d1, d2] => { results := [.lit (.bool true)], args := [d1, d2] }
  | _ => none }
def deadlockCompleteRow : OpenClaim := { program := "yteicgnmggkhlbaa", sum := "fad1a62e4939c0b09478bda48629d071b7f51d4cfe8d2cc2b0bc9f3c7238aafe", func := "railplan/railplanlaw36.DeadlockComplete", spec := "deadlockComplete", recurses := true, plainKeys := false, apart := false }
def DeadlockCompleteSaid : Prop := deadlockCompleteRow.holds Try.pinned (OpenSpec.ofChange deadlockCompleteSpec)

/-- ITS FALSE NEIGHBOUR: 'it returns false'. Refute it at one input. -/
def deadlockCompleteWrong : ChangeSpec := { name := "deadlockComplete", fn := fun _ => fun
  | [d1, d2] => { results := [.lit (.bool false)], args := [d1, d2] }
  | _ => none }
def DeadlockCompleteWrongFalsely : Prop := deadlockCompleteRow.holds Try.pinned (OpenSpec.ofChange deadlockCompleteWrong)

/-- 'railplanlaw36.DeadlockLeast': WHATEVER THE INPUT: true; the input reads as it did. -/
def deadlockLeastSpec : ChangeSpec := { name := "deadlockLeast", fn := fun _ => fun
  | [d1, d2] => { results := [.lit (.bool true)], args := [d1, d2] }
  | _ => none }
def deadlockLeastRow : OpenClaim := { program := "yteicgnmggkhlbaa", sum := "fad1a62e4939c0b09478bda48629d071b7f51d4cfe8d2cc2b0bc9f3c7238aafe", func := "railplan/railplanlaw36.DeadlockLeast", spec := "deadlockLeast", recurses := true, plainKeys := false, apart := false }
def DeadlockLeastSaid : Prop := deadlockLeastRow.holds Try.pinned (OpenSpec.ofChange deadlockLeastSpec)

/-- ITS FALSE NEIGHBOUR: 'it returns false'. Refute it at one input. -/
def deadlockLeastWrong : ChangeSpec := { name := "deadlockLeast", fn := fun _ => fun
  | [d1, d2] => { results := [.lit (.bool false)], args := [d1, d2] }
  | _ => none }
def DeadlockLeastWrongFalsely : Prop := deadlockLeastRow.holds Try.pinned (OpenSpec.ofChange deadlockLeastWrong)

/-- 'railplanlaw36.DeadlockFewer': WHATEVER THE INPUT: true; the input reads as it did. -/
def deadlockFewerSpec : ChangeSpec := { name := "deadlockFewer", fn := fun _ => fun
  | [d1, d2, d3] => { results := [.lit (.bool true)], args := [d1, d2, d3] }
  | _ => none }
def deadlockFewerRow : OpenClaim := { program := "yteicgnmggkhlbaa", sum := "fad1a62e4939c0b09478bda48629d071b7f51d4cfe8d2cc2b0bc9f3c7238aafe", func := "railplan/railplanlaw36.DeadlockFewer", spec := "deadlockFewer", recurses := true, plainKeys := false, apart := false }
def DeadlockFewerSaid : Prop := deadlockFewerRow.holds Try.pinned (OpenSpec.ofChange deadlockFewerSpec)

/-- ITS FALSE NEIGHBOUR: 'it returns false'. Refute it at one input. -/
def deadlockFewerWrong : ChangeSpec := { name := "deadlockFewer", fn := fun _ => fun
  | [d1, d2, d3] => { results := [.lit (.bool false)], args := [d1, d2, d3] }
  | _ => none }
def DeadlockFewerWrongFalsely : Prop := deadlockFewerRow.holds Try.pinned (OpenSpec.ofChange deadlockFewerWrong)

/-- 'railplanlaw36.DeadlockAlone': WHATEVER THE INPUT: true; the input reads as it did. -/
def deadlockAloneSpec : ChangeSpec := { name := "deadlockAlone", fn := fun _ => fun
  | [d1, d2] => { results := [.lit (.bool true)], args := [d1, d2] }
  | _ => none }
def deadlockAloneRow : OpenClaim := { program := "yteicgnmggkhlbaa", sum := "fad1a62e4939c0b09478bda48629d071b7f51d4cfe8d2cc2b0bc9f3c7238aafe", func := "railplan/railplanlaw36.DeadlockAlone", spec := "deadlockAlone", recurses := true, plainKeys := false, apart := false }
def DeadlockAloneSaid : Prop := deadlockAloneRow.holds Try.pinned (OpenSpec.ofChange deadlockAloneSpec)

/-- ITS FALSE NEIGHBOUR: 'it returns false'. Refute it at one input. -/
def deadlockAloneWrong : ChangeSpec := { name := "deadlockAlone", fn := fun _ => fun
  | [d1, d2] => { results := [.lit (.bool false)], args := [d1, d2] }
  | _ => none }
def DeadlockAloneWrongFalsely : Prop := deadlockAloneRow.holds Try.pinned (OpenSpec.ofChange deadlockAloneWrong)

/-- 'railplanlaw36.DeadlockPlan': WHATEVER THE INPUT: true; the input reads as it did. -/
def deadlockPlanSpec : ChangeSpec := { name := "deadlockPlan", fn := fun _ => fun
  | [d1, d2] => { results := [.lit (.bool true)], args := [d1, d2] }
  | _ => none }
def deadlockPlanRow : OpenClaim := { program := "yteicgnmggkhlbaa", sum := "fad1a62e4939c0b09478bda48629d071b7f51d4cfe8d2cc2b0bc9f3c7238aafe", func := "railplan/railplanlaw36.DeadlockPlan", spec := "deadlockPlan", recurses := true, plainKeys := false, apart := false }
def DeadlockPlanSaid : Prop := deadlockPlanRow.holds Try.pinned (OpenSpec.ofChange deadlockPlanSpec)

/-- ITS FALSE NEIGHBOUR: 'it returns false'. Refute it at one input. -/
def deadlockPlanWrong : ChangeSpec := { name := "deadlockPlan", fn := fun _ => fun
  | [d1, d2] => { results := [.lit (.bool false)], args := [d1, d2] }
  | _ => none }
def DeadlockPlanWrongFalsely : Prop := deadlockPlanRow.holds Try.pinned (OpenSpec.ofChange deadlockPlanWrong)

/-- 'railplanlaw36.DeadlockAdmit': WHATEVER THE INPUT: true; the input reads as it did. -/
def deadlockAdmitSpec : ChangeSpec := { name := "deadlockAdmit", fn := fun _ => fun
  | [d1, d2] => { results := [.lit (.bool true)], args := [d1, d2] }
  | _ => none }
def deadlockAdmitRow : OpenClaim := { program := "yteicgnmggkhlbaa", sum := "fad1a62e4939c0b09478bda48629d071b7f51d4cfe8d2cc2b0bc9f3c7238aafe", func := "railplan/railplanlaw36.DeadlockAdmit", spec := "deadlockAdmit", recurses := true, plainKeys := false, apart := false }
def DeadlockAdmitSaid : Prop := deadlockAdmitRow.holds Try.pinned (OpenSpec.ofChange deadlockAdmitSpec)

/-- ITS FALSE NEIGHBOUR: 'it returns false'. Refute it at one input. -/
def deadlockAdmitWrong : ChangeSpec := { name := "deadlockAdmit", fn := fun _ => fun
  | [d1, d2] => { results := [.lit (.bool false)], args := [d1, d2] }
  | _ => none }
def DeadlockAdmitWrongFalsely : Prop := deadlockAdmitRow.holds Try.pinned (OpenSpec.ofChange deadlockAdmitWrong)

/-- 'railplanlaw36.DeadlockKnot': WHATEVER THE INPUT: true; the input reads as it did. -/
def deadlockKnotSpec : ChangeSpec := { name := "deadlockKnot", fn := fun _ => fun
  | [d1, d2, d3] => { results := [.lit (.bool true)], args := [d1, d2, d3] }
  | _ => none }
def deadlockKnotRow : OpenClaim := { program := "yteicgnmggkhlbaa", sum := "fad1a62e4939c0b09478bda48629d071b7f51d4cfe8d2cc2b0bc9f3c7238aafe", func := "railplan/railplanlaw36.DeadlockKnot", spec := "deadlockKnot", recurses := true, plainKeys := false, apart := false }
def DeadlockKnotSaid : Prop := deadlockKnotRow.holds Try.pinned (OpenSpec.ofChange deadlockKnotSpec)

/-- ITS FALSE NEIGHBOUR: 'it returns false'. Refute it at one input. -/
def deadlockKnotWrong : ChangeSpec := { name := "deadlockKnot", fn := fun _ => fun
  | [d1, d2, d3] => { results := [.lit (.bool false)], args := [d1, d2, d3] }
  | _ => none }
def DeadlockKnotWrongFalsely : Prop := deadlockKnotRow.holds Try.pinned (OpenSpec.ofChange deadlockKnotWrong)

/-- 'railplanlaw36.DeadlockExample': WHATEVER THE INPUT: true; the input reads as it did. -/
def deadlockExampleSpec : ChangeSpec := { name := "deadlockExample", fn := fun _ => fun
  | [] => { results := [.lit (.bool true)], args := [] }
  | _ => none }
def deadlockExampleRow : OpenClaim := { program := "yteicgnmggkhlbaa", sum := "fad1a62e4939c0b09478bda48629d071b7f51d4cfe8d2cc2b0bc9f3c7238aafe", func := "railplan/railplanlaw36.DeadlockExample", spec := "deadlockExample", recurses := true, plainKeys := false, apart := false }
def DeadlockExampleSaid : Prop := deadlockExampleRow.holds Try.pinned (OpenSpec.ofChange deadlockExampleSpec)

/-- ITS FALSE NEIGHBOUR: 'it returns false'. Refute it at one input. -/
def deadlockExampleWrong : ChangeSpec := { name := "deadlockExample", fn := fun _ => fun
  | [] => { results := [.lit (.bool false)], args := [] }
  | _ => none }
def DeadlockExampleWrongFalsely : Prop := deadlockExampleRow.holds Try.pinned (OpenSpec.ofChange deadlockExampleWrong)

/-- 'railplanlaw36.DeadlockRaw': WHATEVER THE INPUT: true; the input reads as it did. -/
def deadlockRawSpec : ChangeSpec := { name := "deadlockRaw", fn := fun _ => fun
  | [d1, d2, d3, d4, d5] => { results := [.lit (.bool true)], args := [d1, d2, d3, d4, d5] }
  | _ => none }
def deadlockRawRow : OpenClaim := { program := "yteicgnmggkhlbaa", sum := "fad1a62e4939c0b09478bda48629d071b7f51d4cfe8d2cc2b0bc9f3c7238aafe", func := "railplan/railplanlaw36.DeadlockRaw", spec := "deadlockRaw", recurses := true, plainKeys := false, apart := false }
def DeadlockRawSaid : Prop := deadlockRawRow.holds Try.pinned (OpenSpec.ofChange deadlockRawSpec)

/-- ITS FALSE NEIGHBOUR: 'it returns false'. Refute it at one input. -/
def deadlockRawWrong : ChangeSpec := { name := "deadlockRaw", fn := fun _ => fun
  | [d1, d2, d3, d4, d5] => { results := [.lit (.bool false)], args := [d1, d2, d3, d4, d5] }
  | _ => none }
def DeadlockRawWrongFalsely : Prop := deadlockRawRow.holds Try.pinned (OpenSpec.ofChange deadlockRawWrong)

/-- 'railplanlaw36.DeadlockMade': WHATEVER THE INPUT: true; the input reads as it did. -/
def deadlockMadeSpec : ChangeSpec := { name := "deadlockMade", fn := fun _ => fun
  | [d1, d2, d3, d4] => { results := [.lit (.bool true)], args := [d1, d2, d3, d4] }
  | _ => none }
def deadlockMadeRow : OpenClaim := { program := "yteicgnmggkhlbaa", sum := "fad1a62e4939c0b09478bda48629d071b7f51d4cfe8d2cc2b0bc9f3c7238aafe", func := "railplan/railplanlaw36.DeadlockMade", spec := "deadlockMade", recurses := true, plainKeys := false, apart := false }
def DeadlockMadeSaid : Prop := deadlockMadeRow.holds Try.pinned (OpenSpec.ofChange deadlockMadeSpec)

/-- ITS FALSE NEIGHBOUR: 'it returns false'. Refute it at one input. -/
def deadlockMadeWrong : ChangeSpec := { name := "deadlockMade", fn := fun _ => fun
  | [d1, d2, d3, d4] => { results := [.lit (.bool false)], args := [d1, d2, d3, d4] }
  | _ => none }
def DeadlockMadeWrongFalsely : Prop := deadlockMadeRow.holds Try.pinned (OpenSpec.ofChange deadlockMadeWrong)

/- THE SECOND FORM. 'bulk': how many values and letters a reading holds, each counted each time it is reached (what is shared counts as often as it is met; a slice's spare places count too). A statement '..UptoSaid' is the law's where the arguments, and the package variables that the reading takes, are together of bulk at most 1048576: NARROWER than '..Said'. Prove '..Said' where nothing that the law and all that it calls make is longer than what came in: it says more and counts as full. Else prove '..UptoSaid'. A law counts once. -/
mutual
def uptoBulk {H : Type} : DataW H → Nat
  | .lit (.string bytes) => bytes.length + 1
  | .lit _ => 1
  | .nil => 1
  | .ptr d => uptoBulk d + 1
  | .slice elems spare => uptoBulkAll elems + uptoBulkAll spare + 1
  | .agg parts => uptoBulkAll parts + 1
  | .iface _ d => uptoBulk d + 1
  | .map entries => uptoBulkEntries entries + 1
  | .held _ => 1
def uptoBulkAll {H : Type} : List (DataW H) → Nat
  | [] => 0
  | d :: r => uptoBulk d + uptoBulkAll r
def uptoBulkEntries {H : Type} : List (Lit × DataW H) → Nat
  | [] => 0
  | x :: r => uptoBulkEntry x + uptoBulkEntries r
def uptoBulkEntry {H : Type} : Lit × DataW H → Nat
  | (.string bytes, d) => bytes.length + uptoBulk d + 1
  | (_, d) => uptoBulk d + 1
 end
def uptoSmall : (H : Type) → List (DataW H) → Bool := fun _ ds => decide (uptoBulkAll ds ≤ 1048576)
def OpenSpec.upto (s : _root_.Go.ChangeSpec) : _root_.Go.OpenSpec := { _root_.Go.OpenSpec.ofChange s with cond := some uptoSmall }

/-- 'railplanlaw36.DeadlockComplete', WHERE WHAT IT READS IS OF BULK AT MOST 1048576: true; the input reads as it did. -/
def deadlockCompleteUptoRow : OpenClaim := { program := "yteicgnmggkhlbaa", sum := "fad1a62e4939c0b09478bda48629d071b7f51d4cfe8d2cc2b0bc9f3c7238aafe", func := "railplan/railplanlaw36.DeadlockComplete", spec := "deadlockComplete", recurses := true, plainKeys := false, apart := false, narrowed := true }
def DeadlockCompleteUptoSaid : Prop := deadlockCompleteUptoRow.holds Try.pinned (OpenSpec.upto deadlockCompleteSpec)

/-- 'railplanlaw36.DeadlockLeast', WHERE WHAT IT READS IS OF BULK AT MOST 1048576: true; the input reads as it did. -/
def deadlockLeastUptoRow : OpenClaim := { program := "yteicgnmggkhlbaa", sum := "fad1a62e4939c0b09478bda48629d071b7f51d4cfe8d2cc2b0bc9f3c7238aafe", func := "railplan/railplanlaw36.DeadlockLeast", spec := "deadlockLeast", recurses := true, plainKeys := false, apart := false, narrowed := true }
def DeadlockLeastUptoSaid : Prop := deadlockLeastUptoRow.holds Try.pinned (OpenSpec.upto deadlockLeastSpec)

/-- 'railplanlaw36.DeadlockFewer', WHERE WHAT IT READS IS OF BULK AT MOST 1048576: true; the input reads as it did. -/
def deadlockFewerUptoRow : OpenClaim := { program := "yteicgnmggkhlbaa", sum := "fad1a62e4939c0b09478bda48629d071b7f51d4cfe8d2cc2b0bc9f3c7238aafe", func := "railplan/railplanlaw36.DeadlockFewer", spec := "deadlockFewer", recurses := true, plainKeys := false, apart := false, narrowed := true }
def DeadlockFewerUptoSaid : Prop := deadlockFewerUptoRow.holds Try.pinned (OpenSpec.upto deadlockFewerSpec)

/-- 'railplanlaw36.DeadlockAlone', WHERE WHAT IT READS IS OF BULK AT MOST 1048576: true; the input reads as it did. -/
def deadlockAloneUptoRow : OpenClaim := { program := "yteicgnmggkhlbaa", sum := "fad1a62e4939c0b09478bda48629d071b7f51d4cfe8d2cc2b0bc9f3c7238aafe", func := "railplan/railplanlaw36.DeadlockAlone", spec := "deadlockAlone", recurses := true, plainKeys := false, apart := false, narrowed := true }
def DeadlockAloneUptoSaid : Prop := deadlockAloneUptoRow.holds Try.pinned (OpenSpec.upto deadlockAloneSpec)

/-- 'railplanlaw36.DeadlockPlan', WHERE WHAT IT READS IS OF BULK AT MOST 1048576: true; the input reads as it did. -/
def deadlockPlanUptoRow : OpenClaim := { program := "yteicgnmggkhlbaa", sum := "fad1a62e4939c0b09478bda48629d071b7f51d4cfe8d2cc2b0bc9f3c7238aafe", func := "railplan/railplanlaw36.DeadlockPlan", spec := "deadlockPlan", recurses := true, plainKeys := false, apart := false, narrowed := true }
def DeadlockPlanUptoSaid : Prop := deadlockPlanUptoRow.holds Try.pinned (OpenSpec.upto deadlockPlanSpec)

/-- 'railplanlaw36.DeadlockAdmit', WHERE WHAT IT READS IS OF BULK AT MOST 1048576: true; the input reads as it did. -/
def deadlockAdmitUptoRow : OpenClaim := { program := "yteicgnmggkhlbaa", sum := "fad1a62e4939c0b09478bda48629d071b7f51d4cfe8d2cc2b0bc9f3c7238aafe", func := "railplan/railplanlaw36.DeadlockAdmit", spec := "deadlockAdmit", recurses := true, plainKeys := false, apart := false, narrowed := true }
def DeadlockAdmitUptoSaid : Prop := deadlockAdmitUptoRow.holds Try.pinned (OpenSpec.upto deadlockAdmitSpec)

/-- 'railplanlaw36.DeadlockKnot', WHERE WHAT IT READS IS OF BULK AT MOST 1048576: true; the input reads as it did. -/
def deadlockKnotUptoRow : OpenClaim := { program := "yteicgnmggkhlbaa", sum := "fad1a62e4939c0b09478bda48629d071b7f51d4cfe8d2cc2b0bc9f3c7238aafe", func := "railplan/railplanlaw36.DeadlockKnot", spec := "deadlockKnot", recurses := true, plainKeys := false, apart := false, narrowed := true }
def DeadlockKnotUptoSaid : Prop := deadlockKnotUptoRow.holds Try.pinned (OpenSpec.upto deadlockKnotSpec)

/-- 'railplanlaw36.DeadlockExample', WHERE WHAT IT READS IS OF BULK AT MOST 1048576: true; the input reads as it did. -/
def deadlockExampleUptoRow : OpenClaim := { program := "yteicgnmggkhlbaa", sum := "fad1a62e4939c0b09478bda48629d071b7f51d4cfe8d2cc2b0bc9f3c7238aafe", func := "railplan/railplanlaw36.DeadlockExample", spec := "deadlockExample", recurses := true, plainKeys := false, apart := false, narrowed := true }
def DeadlockExampleUptoSaid : Prop := deadlockExampleUptoRow.holds Try.pinned (OpenSpec.upto deadlockExampleSpec)

/-- 'railplanlaw36.DeadlockRaw', WHERE WHAT IT READS IS OF BULK AT MOST 1048576: true; the input reads as it did. -/
def deadlockRawUptoRow : OpenClaim := { program := "yteicgnmggkhlbaa", sum := "fad1a62e4939c0b09478bda48629d071b7f51d4cfe8d2cc2b0bc9f3c7238aafe", func := "railplan/railplanlaw36.DeadlockRaw", spec := "deadlockRaw", recurses := true, plainKeys := false, apart := false, narrowed := true }
def DeadlockRawUptoSaid : Prop := deadlockRawUptoRow.holds Try.pinned (OpenSpec.upto deadlockRawSpec)

/-- 'railplanlaw36.DeadlockMade', WHERE WHAT IT READS IS OF BULK AT MOST 1048576: true; the input reads as it did. -/
def deadlockMadeUptoRow : OpenClaim := { program := "yteicgnmggkhlbaa", sum := "fad1a62e4939c0b09478bda48629d071b7f51d4cfe8d2cc2b0bc9f3c7238aafe", func := "railplan/railplanlaw36.DeadlockMade", spec := "deadlockMade", recurses := true, plainKeys := false, apart := false, narrowed := true }
def DeadlockMadeUptoSaid : Prop := deadlockMadeUptoRow.holds Try.pinned (OpenSpec.upto deadlockMadeSpec)

end Rows
end Go.Proofs.Yteicgnmggkhlbaa
