/-
  Arguments that come in: slices of flanks and of locks.
-/
import Derived.Test.YtciljdhihnnfiaaIn
import Derived.Test.YtciljdhihnnfiaaIlk
namespace Go.Wk
open Go.ChangeShapes Go.WideShapes Go.Deep
set_option linter.unusedVariables false
set_option linter.unusedSimpArgs false
section
variable {H : Type} {enc : TypeId × Value → H} {P : Program} {w : World} {base : Nat} {spare : Nat → Bool} {held : Bool}
theorem list2 {α : Type} {l : List α} (h : l.length = 2) : ∃ a b, l = [a, b] := by
  match l, h with
  | [a, b], _ => exact ⟨a, b, rfl⟩
theorem fk_of {t : TypeId} {fs : Array Field} {fuel : Nat} {cs : List Value} {x : DataW H × List MemPlace} (ht : P.underlying t = some (.struct fs)) (hm : P.cellsOf t = 3) (hs : fs.size = 3)
    (hf : ∀ (i : Nat) (f : Field), fs[i]? = some f → f.offset = i ∧ P.cellsOf f.type = 1 ∧ P.underlying f.type = some (.int .i64)) (h : DataW.trod enc P w base spare held fuel t cs = some x) :
    ∃ a : Fk, cs = encFk a ∧ True := by
  obtain ⟨hl, hz⟩ := ints_struct ht hm hs hf h
  obtain ⟨c0, c1, c2, rfl⟩ := list3 hl
  obtain ⟨z0, e0, w0⟩ := hz 0 (by omega)
  obtain ⟨z1, e1, w1⟩ := hz 1 (by omega)
  obtain ⟨z2, e2, w2⟩ := hz 2 (by omega)
  simp at e0 e1 e2
  exact ⟨⟨z0, z1, z2⟩, by rw [e0, e1, e2]; rfl, trivial⟩
theorem lk_of {t : TypeId} {fs : Array Field} {fuel : Nat} {cs : List Value} {x : DataW H × List MemPlace} (ht : P.underlying t = some (.struct fs)) (hm : P.cellsOf t = 2) (hs : fs.size = 2)
    (hf : ∀ (i : Nat) (f : Field), fs[i]? = some f → f.offset = i ∧ P.cellsOf f.type = 1 ∧ P.underlying f.type = some (.int .i64)) (h : DataW.trod enc P w base spare held fuel t cs = some x) :
    ∃ a : Lk, cs = encLk a ∧ True := by
  obtain ⟨hl, hz⟩ := ints_struct ht hm hs hf h
  obtain ⟨c0, c1, rfl⟩ := list2 hl
  obtain ⟨z0, e0, w0⟩ := hz 0 (by omega)
  obtain ⟨z1, e1, w1⟩ := hz 1 (by omega)
  simp at e0 e1
  exact ⟨⟨z0, z1⟩, by rw [e0, e1]; rfl, trivial⟩
end
end Go.Wk
