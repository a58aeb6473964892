/-
  More operations on memory: a literal slice as a slice of the call's own.
-/
import Derived.Test.YtclligkngjhihaaWkH
namespace Go.Wk
open Go.RowKit
set_option linter.unusedVariables false
set_option linter.unusedSimpArgs false
section
variable {P : Program} {n : Nat} {f : Nat → Value} {d : Option Tmp} {ty : TypeId} {pos : String} {af : Array Edge} {gd : Option (Nat × Bool)} {w : World} {T E : TypeId} {K : Value → World → Prop}
  {α : Type} {enc : α → List Value} {sz lo : Nat} {l : List α}
theorem d_bsO {m : Nat} {ps : Array (Nat × Operand)} {qs : List (Nat × Value)} (hlen : ∀ x, (enc x).length = sz)
    (h : (Instr.buildSlice T m qs.toArray).run P w = .ok (.slice (some ⟨w.heap.size, 0, none⟩) m m) (w.alloc (.cells (l.flatMap enc).toArray E))) (hq : (ps.toList.map fun p => (p.1, ev n f p.2)) = qs) (hm : m = l.length) (hmx : m ≤ maxLen) (hlo : lo ≤ w.heap.size)
    (k : ∀ b w', b = w.heap.size → w'.heap.size = b + 1 → Ext w w' → Ow E enc sz lo (b + 1) w' (some ⟨b, 0, none⟩) m l → K (.slice (some ⟨b, 0, none⟩) m m) w') :
    DoK P n f ⟨d, .buildSlice T m ps, ty, pos, af, gd⟩ w K := by
  have e : (ps.map fun (i, x) => (i, ev n f x)) = qs.toArray := by
    rw [← hq, ← Array.toList_map, Array.toArray_toList]
  have hf := flat_len hlen l
  subst hm
  refine ⟨_, w.alloc (.cells (l.flatMap enc).toArray E), .inl (by simp [execOp, e, h]), k _ _ rfl (by simp) (Out.alloc w _) ⟨⟨hf, .inr ⟨w.heap.size, l.length, (l.flatMap enc).toArray, rfl, hlo, heap_alloc_new w _, Nat.le_refl _, hmx, by simpa using hf, ?_⟩⟩, hlen, Nat.le_refl _⟩⟩
  rw [← hf]; exact List.take_length
end
end Go.Wk
