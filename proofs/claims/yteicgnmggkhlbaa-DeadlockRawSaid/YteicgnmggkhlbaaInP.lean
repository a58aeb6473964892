/-
  Arguments that come in: paths of trains.
-/
import Derived.Test.YteicgnmggkhlbaaIn
import Derived.Test.YteicgnmggkhlbaaDk
namespace Go.Wk
open Go.ChangeShapes Go.WideShapes Go.Deep
set_option linter.unusedVariables false
set_option linter.unusedSimpArgs false

section
variable {H : Type} {enc : TypeId × Value → H} {P : Program} {w : World} {base : Nat} {spare : Nat → Bool} {held : Bool}
theorem list4 {α : Type} {l : List α} (h : l.length = 4) : ∃ a b c d, l = [a, b, c, d] := by
  match l, h with
  | [a, b, c, d], _ => exact ⟨a, b, c, d, rfl⟩
theorem int_of {e : TypeId} (he : P.underlying e = some (.int .i64)) (n : Nat) (cs : List Value) (x : DataW H × List MemPlace) (h : DataW.trod enc P w base spare held n e cs = some x) : ∃ a : Int, cs = encI a ∧ wf64 a := by
  obtain ⟨z, hz, _, hw⟩ := DataW.trod_int he h
  exact ⟨z, hz, hw⟩
theorem sg_of {t e : TypeId} {f0 f1 f2 f3 : Field} {fuel : Nat} {cs : List Value} {x : DataW H × List MemPlace} (ht : P.underlying t = some (.struct #[f0, f1, f2, f3])) (hm : P.cellsOf t = 4)
    (o0 : f0.offset = 0) (o1 : f1.offset = 1) (o2 : f2.offset = 2) (o3 : f3.offset = 3) (z0 : P.cellsOf f0.type = 1) (z1 : P.cellsOf f1.type = 1) (z2 : P.cellsOf f2.type = 1) (z3 : P.cellsOf f3.type = 1)
    (u0 : P.underlying f0.type = some (.int .i64)) (u1 : P.underlying f1.type = some (.slice e)) (u2 : P.underlying f2.type = some (.int .i64)) (u3 : P.underlying f3.type = some (.int .i64)) (ue : P.underlying e = some (.int .i64)) (ze : P.cellsOf e = 1)
    (h : DataW.trod enc P w base spare held fuel t cs = some x) : ∃ s : Sg, cs = encSg s ∧ Ints 0 w.heap.size w s.pa s.pts ∧ (s.pts.length : Int) ≤ 9223372036854775807 := by
  obtain ⟨xs, n, _, _, hl, hlen, hx⟩ := DataW.trod_struct ht h
  obtain ⟨c0, c1, c2, c3, rfl⟩ := list4 (hl.trans hm)
  have hln : xs.length = 4 := hlen
  have h0 := hx 0 f0 rfl
  have h1 := hx 1 f1 rfl
  have h2 := hx 2 f2 rfl
  have h3 := hx 3 f3 rfl
  rw [List.getElem?_eq_getElem (by omega), o0, z0] at h0
  rw [List.getElem?_eq_getElem (by omega), o1, z1] at h1
  rw [List.getElem?_eq_getElem (by omega), o2, z2] at h2
  rw [List.getElem?_eq_getElem (by omega), o3, z3] at h3
  obtain ⟨a, e0, _⟩ := DataW.trod_int u0 h0
  obtain ⟨b, e2, _⟩ := DataW.trod_int u2 h2
  obtain ⟨c, e3, _⟩ := DataW.trod_int u3 h3
  obtain ⟨ad, cap, l, e1, n1, s1, _⟩ := sl_of (en := encI) (sz := 1) u1 ze (by decide) (fun _ => rfl) (int_of ue) h1
  simp at e0 e1 e2 e3
  exact ⟨⟨a, ad, cap, l, b, c⟩, by rw [e0, e1, e2, e3]; rfl, s1, n1⟩
/-- Paths that came in. -/
theorem paths_of {tt tr ts e : TypeId} {f0 f1 f2 f3 : Field} {fuel : Nat} {cs : List Value} {x : DataW H × List MemPlace} (hp : P.underlying tt = some (.slice tr)) (hr : P.underlying tr = some (.slice ts)) (zr : P.cellsOf tr = 1) (ht : P.underlying ts = some (.struct #[f0, f1, f2, f3])) (hm : P.cellsOf ts = 4)
    (o0 : f0.offset = 0) (o1 : f1.offset = 1) (o2 : f2.offset = 2) (o3 : f3.offset = 3) (z0 : P.cellsOf f0.type = 1) (z1 : P.cellsOf f1.type = 1) (z2 : P.cellsOf f2.type = 1) (z3 : P.cellsOf f3.type = 1)
    (u0 : P.underlying f0.type = some (.int .i64)) (u1 : P.underlying f1.type = some (.slice e)) (u2 : P.underlying f2.type = some (.int .i64)) (u3 : P.underlying f3.type = some (.int .i64)) (ue : P.underlying e = some (.int .i64)) (ze : P.cellsOf e = 1)
    (h : DataW.trod enc P w base spare held fuel tt cs = some x) : ∃ ad cap rows, cs = [.slice ad (rows : List Pw).length cap] ∧ PIn 0 w.heap.size w ad rows ∧ (rows.length : Int) ≤ 9223372036854775807 ∧ ∀ r ∈ rows, (r.st.length : Int) ≤ 9223372036854775807 ∧ ∀ s ∈ r.st, (s.pts.length : Int) ≤ 9223372036854775807 := by
  obtain ⟨ad, cap, rows, e1, n1, s1, q1, _⟩ := sl_of (en := encPw) (sz := 1) (Q := fun r => Sl encSg 4 0 w.heap.size w r.a r.st ∧ (r.st.length : Int) ≤ 9223372036854775807 ∧ ∀ s ∈ r.st, Ints 0 w.heap.size w s.pa s.pts ∧ (s.pts.length : Int) ≤ 9223372036854775807) hp zr (by decide) (fun _ => rfl) (fun n cs x h => by
    obtain ⟨a2, c2, l2, e2, n2, s2, q2, _⟩ := sl_of (en := encSg) (sz := 4) hr hm (by decide) (fun _ => rfl) (fun n cs x h => sg_of ht hm o0 o1 o2 o3 z0 z1 z2 z3 u0 u1 u2 u3 ue ze h) h
    exact ⟨⟨a2, c2, l2⟩, e2, s2, n2, q2⟩) h
  exact ⟨ad, cap, rows, e1, ⟨s1, fun r hr => (q1 r hr).1, fun r hr s hs => ((q1 r hr).2.2 s hs).1⟩, n1, fun r hr => ⟨(q1 r hr).2.1, fun s hs => ((q1 r hr).2.2 s hs).2⟩⟩
end
end Go.Wk
