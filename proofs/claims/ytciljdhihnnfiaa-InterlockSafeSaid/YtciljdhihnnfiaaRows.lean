/-
  No cell of these rows narrows 'for every input' (looked for: loops, veiled, ifaces, maps, wideKeys, modest, calm, conditions, laid).
  DERIVED. THE GIVEN ROWS OF THIS SEAT. 7 by the template 'for every input the law returns true; each argument reads behind the call as it read before'; 0 by the template 'total and deterministic' (their statements: YtciljdhihnnfiaaTotals.lean).
  GIVEN WITH THE SEED: the statements are not yours to turn. If you find one false, say at which input.
  Laid BY PROGRAM, IN A SANDBOX (cutbox-rows.mjs): the forced cells as the released guide's own fill.sh prints them over the translation 236f4b21b7d8bfc6… (all of the seat's roots in one cut). By AI agents, Wed Nov 11 2026. No macro, syntax, notation, axiom, sorry.
-/
import Derived.Test.YtciljdhihnnfiaaChecked
import GoSem.Claim
import GoSem.ClaimJoined
import GoSem.ClaimMapViews
import Derived.JoinedTies
import Derived.KernelRfl
namespace Go.Proofs.Ytciljdhihnnfiaa
/- THE CELL 'sum', in the pinned program and in every row, IS THE sha256 OF THE DUMP (.gsa) THAT YtciljdhihnnfiaaProg.lean LOADS. Nothing in Lean hashes anything: it is a label: what it is worth is what the hold of that sum in a sandbox is worth. -/
noncomputable def Try.pinned : Pinned := { name := "ytciljdhihnnfiaa", sum := "236f4b21b7d8bfc65f0411e62f6977fdeb388423c3e5e14923e19587bd599fdf", checked := Try.checked }
namespace Rows
def none {H : Type} : Left H := { results := [], args := [] }

/-- 'railplanlaw32.InterlockNew': WHATEVER THE INPUT: true; the input reads as it did. -/
def interlockNewSpec : ChangeSpec := { name := "interlockNew", fn := fun _ => fun
  | [d1, d2, d3] => { results := [.lit (.bool true)], args := [d1, d2, d3] }
  | _ => none }
def interlockNewRow : OpenClaim := { program := "ytciljdhihnnfiaa", sum := "236f4b21b7d8bfc65f0411e62f6977fdeb388423c3e5e14923e19587bd599fdf", func := "railplan/railplanlaw32.InterlockNew", spec := "interlockNew", apart := false }
def InterlockNewSaid : Prop := interlockNewRow.holds Try.pinned (OpenSpec.ofChange interlockNewSpec)

/-- ITS FALSE NEIGHBOUR: 'it returns false'. Refute it at one input. -/
def interlockNewWrong : ChangeSpec := { name := "interlockNew", fn := fun _ => fun
  | [d1, d2, d3] => { results := [.lit (.bool false)], args := [d1, d2, d3] }
  | _ => none }
def InterlockNewWrongFalsely : Prop := interlockNewRow.holds Try.pinned (OpenSpec.ofChange interlockNewWrong)

/-- 'railplanlaw32.InterlockSafe': WHATEVER THE INPUT: true; the input reads as it did. -/
def interlockSafeSpec : ChangeSpec := { name := "interlockSafe", fn := fun _ => fun
  | [d] => { results := [.lit (.bool true)], args := [d] }
  | _ => none }
def interlockSafeRow : OpenClaim := { program := "ytciljdhihnnfiaa", sum := "236f4b21b7d8bfc65f0411e62f6977fdeb388423c3e5e14923e19587bd599fdf", func := "railplan/railplanlaw32.InterlockSafe", spec := "interlockSafe", apart := false }
def InterlockSafeSaid : Prop := interlockSafeRow.holds Try.pinned (OpenSpec.ofChange interlockSafeSpec)

/-- ITS FALSE NEIGHBOUR: 'it returns false'. Refute it at one input. -/
def interlockSafeWrong : ChangeSpec := { name := "interlockSafe", fn := fun _ => fun
  | [d] => { results := [.lit (.bool false)], args := [d] }
  | _ => none }
def InterlockSafeWrongFalsely : Prop := interlockSafeRow.holds Try.pinned (OpenSpec.ofChange interlockSafeWrong)

/-- 'railplanlaw32.InterlockClosed': WHATEVER THE INPUT: true; the input reads as it did. -/
def interlockClosedSpec : ChangeSpec := { name := "interlockClosed", fn := fun _ => fun
  | [d1, d2, d3] => { results := [.lit (.bool true)], args := [d1, d2, d3] }
  | _ => none }
def interlockClosedRow : OpenClaim := { program := "ytciljdhihnnfiaa", sum := "236f4b21b7d8bfc65f0411e62f6977fdeb388423c3e5e14923e19587bd599fdf", func := "railplan/railplanlaw32.InterlockClosed", spec := "interlockClosed", apart := false }
def InterlockClosedSaid : Prop := interlockClosedRow.holds Try.pinned (OpenSpec.ofChange interlockClosedSpec)

/-- ITS FALSE NEIGHBOUR: 'it returns false'. Refute it at one input. -/
def interlockClosedWrong : ChangeSpec := { name := "interlockClosed", fn := fun _ => fun
  | [d1, d2, d3] => { results := [.lit (.bool false)], args := [d1, d2, d3] }
  | _ => none }
def InterlockClosedWrongFalsely : Prop := interlockClosedRow.holds Try.pinned (OpenSpec.ofChange interlockClosedWrong)

/-- 'railplanlaw32.InterlockExclusive': WHATEVER THE INPUT: true; the input reads as it did. -/
def interlockExclusiveSpec : ChangeSpec := { name := "interlockExclusive", fn := fun _ => fun
  | [d1, d2, d3, d4] => { results := [.lit (.bool true)], args := [d1, d2, d3, d4] }
  | _ => none }
def interlockExclusiveRow : OpenClaim := { program := "ytciljdhihnnfiaa", sum := "236f4b21b7d8bfc65f0411e62f6977fdeb388423c3e5e14923e19587bd599fdf", func := "railplan/railplanlaw32.InterlockExclusive", spec := "interlockExclusive", apart := false }
def InterlockExclusiveSaid : Prop := interlockExclusiveRow.holds Try.pinned (OpenSpec.ofChange interlockExclusiveSpec)

/-- ITS FALSE NEIGHBOUR: 'it returns false'. Refute it at one input. -/
def interlockExclusiveWrong : ChangeSpec := { name := "interlockExclusive", fn := fun _ => fun
  | [d1, d2, d3, d4] => { results := [.lit (.bool false)], args := [d1, d2, d3, d4] }
  | _ => none }
def InterlockExclusiveWrongFalsely : Prop := interlockExclusiveRow.holds Try.pinned (OpenSpec.ofChange interlockExclusiveWrong)

/-- 'railplanlaw32.InterlockScript': WHATEVER THE INPUT: true; the input reads as it did. -/
def interlockScriptSpec : ChangeSpec := { name := "interlockScript", fn := fun _ => fun
  | [d] => { results := [.lit (.bool true)], args := [d] }
  | _ => none }
def interlockScriptRow : OpenClaim := { program := "ytciljdhihnnfiaa", sum := "236f4b21b7d8bfc65f0411e62f6977fdeb388423c3e5e14923e19587bd599fdf", func := "railplan/railplanlaw32.InterlockScript", spec := "interlockScript", apart := false }
def InterlockScriptSaid : Prop := interlockScriptRow.holds Try.pinned (OpenSpec.ofChange interlockScriptSpec)

/-- ITS FALSE NEIGHBOUR: 'it returns false'. Refute it at one input. -/
def interlockScriptWrong : ChangeSpec := { name := "interlockScript", fn := fun _ => fun
  | [d] => { results := [.lit (.bool false)], args := [d] }
  | _ => none }
def InterlockScriptWrongFalsely : Prop := interlockScriptRow.holds Try.pinned (OpenSpec.ofChange interlockScriptWrong)

/-- 'railplanlaw32.InterlockRaw': WHATEVER THE INPUT: true; the input reads as it did. -/
def interlockRawSpec : ChangeSpec := { name := "interlockRaw", fn := fun _ => fun
  | [d1, d2, d3, d4, d5] => { results := [.lit (.bool true)], args := [d1, d2, d3, d4, d5] }
  | _ => none }
def interlockRawRow : OpenClaim := { program := "ytciljdhihnnfiaa", sum := "236f4b21b7d8bfc65f0411e62f6977fdeb388423c3e5e14923e19587bd599fdf", func := "railplan/railplanlaw32.InterlockRaw", spec := "interlockRaw", apart := false }
def InterlockRawSaid : Prop := interlockRawRow.holds Try.pinned (OpenSpec.ofChange interlockRawSpec)

/-- ITS FALSE NEIGHBOUR: 'it returns false'. Refute it at one input. -/
def interlockRawWrong : ChangeSpec := { name := "interlockRaw", fn := fun _ => fun
  | [d1, d2, d3, d4, d5] => { results := [.lit (.bool false)], args := [d1, d2, d3, d4, d5] }
  | _ => none }
def InterlockRawWrongFalsely : Prop := interlockRawRow.holds Try.pinned (OpenSpec.ofChange interlockRawWrong)

/-- 'railplanlaw32.InterlockAtomic': WHATEVER THE INPUT: true; the input reads as it did. -/
def interlockAtomicSpec : ChangeSpec := { name := "interlockAtomic", fn := fun _ => fun
  | [d1, d2] => { results := [.lit (.bool true)], args := [d1, d2] }
  | _ => none }
def interlockAtomicRow : OpenClaim := { program := "ytciljdhihnnfiaa", sum := "236f4b21b7d8bfc65f0411e62f6977fdeb388423c3e5e14923e19587bd599fdf", func := "railplan/railplanlaw32.InterlockAtomic", spec := "interlockAtomic", apart := false }
def InterlockAtomicSaid : Prop := interlockAtomicRow.holds Try.pinned (OpenSpec.ofChange interlockAtomicSpec)

/-- ITS FALSE NEIGHBOUR: 'it returns false'. Refute it at one input. -/
def interlockAtomicWrong : ChangeSpec := { name := "interlockAtomic", fn := fun _ => fun
  | [d1, d2] => { results := [.lit (.bool false)], args := [d1, d2] }
  | _ => none }
def InterlockAtomicWrongFalsely : Prop := interlockAtomicRow.holds Try.pinned (OpenSpec.ofChange interlockAtomicWrong)

/- THE SECOND FORM. 'bulk': how many values and letters a reading holds, each counted each time it is reached (what is shared counts as often as it is met; a slice's spare places count too). A statement '..UptoSaid' is the law's where the arguments, and the package variables that the reading takes, are together of bulk at most 1048576: NARROWER than '..Said'. Prove '..Said' where nothing that the law and all that it calls make is longer than what came in: it says more and counts as full. Else prove '..UptoSaid'. A law counts once. -/
mutual
def uptoBulk {H : Type} : DataW H → Nat
  | .lit (.string bytes) => bytes.length + 1
  | .lit _ => 1
  | .nil => 1
  | .ptr d => uptoBulk d + 1
  | .slice elems spare => uptoBulkAll elems + uptoBulkAll spare + 1
  | .agg parts => uptoBulkAll parts + 1
  | .iface _ d => uptoBulk d + 1
  | .map entries => uptoBulkEntries entries + 1
  | .held _ => 1
def uptoBulkAll {H : Type} : List (DataW H) → Nat
  | [] => 0
  | d :: r => uptoBulk d + uptoBulkAll r
def uptoBulkEntries {H : Type} : List (Lit × DataW H) → Nat
  | [] => 0
  | x :: r => uptoBulkEntry x + uptoBulkEntries r
def uptoBulkEntry {H : Type} : Lit × DataW H → Nat
  | (.string bytes, d) => bytes.length + uptoBulk d + 1
  | (_, d) => uptoBulk d + 1
 end
def uptoSmall : (H : Type) → List (DataW H) → Bool := fun _ ds => decide (uptoBulkAll ds ≤ 1048576)
def OpenSpec.upto (s : _root_.Go.ChangeSpec) : _root_.Go.OpenSpec := { _root_.Go.OpenSpec.ofChange s with cond := some uptoSmall }

/-- 'railplanlaw32.InterlockNew', WHERE WHAT IT READS IS OF BULK AT MOST 1048576: true; the input reads as it did. -/
def interlockNewUptoRow : OpenClaim := { program := "ytciljdhihnnfiaa", sum := "236f4b21b7d8bfc65f0411e62f6977fdeb388423c3e5e14923e19587bd599fdf", func := "railplan/railplanlaw32.InterlockNew", spec := "interlockNew", apart := false, narrowed := true }
def InterlockNewUptoSaid : Prop := interlockNewUptoRow.holds Try.pinned (OpenSpec.upto interlockNewSpec)

/-- 'railplanlaw32.InterlockSafe', WHERE WHAT IT READS IS OF BULK AT MOST 1048576: true; the input reads as it did. -/
def interlockSafeUptoRow : OpenClaim := { program := "ytciljdhihnnfiaa", sum := "236f4b21b7d8bfc65f0411e62f6977fdeb388423c3e5e14923e19587bd599fdf", func := "railplan/railplanlaw32.InterlockSafe", spec := "interlockSafe", apart := false, narrowed := true }
def InterlockSafeUptoSaid : Prop := interlockSafeUptoRow.holds Try.pinned (OpenSpec.upto interlockSafeSpec)

/-- 'railplanlaw32.InterlockClosed', WHERE WHAT IT READS IS OF BULK AT MOST 1048576: true; the input reads as it did. -/
def interlockClosedUptoRow : OpenClaim := { program := "ytciljdhihnnfiaa", sum := "236f4b21b7d8bfc65f0411e62f6977fdeb388423c3e5e14923e19587bd599fdf", func := "railplan/railplanlaw32.InterlockClosed", spec := "interlockClosed", apart := false, narrowed := true }
def InterlockClosedUptoSaid : Prop := interlockClosedUptoRow.holds Try.pinned (OpenSpec.upto interlockClosedSpec)

/-- 'railplanlaw32.InterlockExclusive', WHERE WHAT IT READS IS OF BULK AT MOST 1048576: true; the input reads as it did. -/
def interlockExclusiveUptoRow : OpenClaim := { program := "ytciljdhihnnfiaa", sum := "236f4b21b7d8bfc65f0411e62f6977fdeb388423c3e5e14923e19587bd599fdf", func := "railplan/railplanlaw32.InterlockExclusive", spec := "interlockExclusive", apart := false, narrowed := true }
def InterlockExclusiveUptoSaid : Prop := interlockExclusiveUptoRow.holds Try.pinned (OpenSpec.upto interlockExclusiveSpec)

/-- 'railplanlaw32.InterlockScript', WHERE WHAT IT READS IS OF BULK AT MOST 1048576: true; the input reads as it did. -/
def interlockScriptUptoRow : OpenClaim := { program := "ytciljdhihnnfiaa", sum := "236f4b21b7d8bfc65f0411e62f6977fdeb388423c3e5e14923e19587bd599fdf", func := "railplan/railplanlaw32.InterlockScript", spec := "interlockScript", apart := false, narrowed := true }
def InterlockScriptUptoSaid : Prop := interlockScriptUptoRow.holds Try.pinned (OpenSpec.upto interlockScriptSpec)

/-- 'railplanlaw32.InterlockRaw', WHERE WHAT IT READS IS OF BULK AT MOST 1048576: true; the input reads as it did. -/
def interlockRawUptoRow : OpenClaim := { program := "ytciljdhihnnfiaa", sum := "236f4b21b7d8bfc65f0411e62f6977fdeb388423c3e5e14923e19587bd599fdf", func := "railplan/railplanlaw32.InterlockRaw", spec := "interlockRaw", apart := false, narrowed := true }
def InterlockRawUptoSaid : Prop := interlockRawUptoRow.holds Try.pinned (OpenSpec.upto interlockRawSpec)

/-- 'railplanlaw32.InterlockAtomic', WHERE WHAT IT READS IS OF BULK AT MOST 1048576: true; the input reads as it did. -/
def interlockAtomicUptoRow : OpenClaim := { program := "ytciljdhihnnfiaa", sum := "236f4b21b7d8bfc65f0411e62f6977fdeb388423c3e5e14923e19587bd599fdf", func := "railplan/railplanlaw32.InterlockAtomic", spec := "interlockAtomic", apart := false, narrowed := true }
def InterlockAtomicUptoSaid : Prop := interlockAtomicUptoRow.holds Try.pinned (OpenSpec.upto interlockAtomicSpec)

end Rows
end Go.Proofs.Ytciljdhihnnfiaa
