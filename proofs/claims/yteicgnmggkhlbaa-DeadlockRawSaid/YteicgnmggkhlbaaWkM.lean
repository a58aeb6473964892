/-
  Maps as sets: a map to bool all of whose values are true.
-/
import Derived.Test.YteicgnmggkhlbaaWkQ
import Derived.Maps.Keyed
namespace Go.Wk
open Go.RowKit Go.Maps
set_option linter.unusedVariables false
set_option linter.unusedSimpArgs false

/-- The block 'b' is a map that has the keys of 'l', each with true. -/
structure Mp {α : Type} (P : Program) (k : TypeId) (enc : α → Value) (w : World) (b : Nat) (l : List α) : Prop where
  ex : ∃ es clock, w.heap[b]? = some (.map es clock) ∧ es.toList.map (·.key) = l.map enc ∧ ∀ x ∈ es.toList, x.val = .bool true
  key : ∀ x ∈ l, ∃ y, keyOf P k (enc x) = some y
section
variable {α : Type} {P : Program} {k : TypeId} {enc : α → Value} {w w' : World} {b : Nat} {l : List α}
theorem Mp.lt (h : Mp P k enc w b l) : b < w.heap.size := by
  obtain ⟨es, cl, h1, _⟩ := h.ex
  exact (Array.getElem?_eq_some_iff.1 h1).1
theorem Mp.out {a c : Nat} (h : Mp P k enc w b l) (ho : Out a c w w') (hs : b < a ∨ c ≤ b) : Mp P k enc w' b l := by
  obtain ⟨es, cl, h1, h2⟩ := h.ex
  exact ⟨⟨es, cl, (ho.block b (Array.getElem?_eq_some_iff.1 h1).1 hs).trans h1, h2⟩, h.key⟩
theorem Mp.ext (h : Mp P k enc w b l) (ho : Ext w w') : Mp P k enc w' b l := h.out ho (.inr (Nat.zero_le _))
end
section
variable {α : Type} {P : Program} {n : Nat} {f : Nat → Value} {d : Option Tmp} {ty : TypeId} {pos : String} {af : Array Edge} {gd : Option (Nat × Bool)} {w : World} {x y z : Operand} {T kt et : TypeId} {K : Value → World → Prop} {enc : α → Value} {b : Nat} {l : List α}
/-- 'make(map[..]bool)'. -/
theorem d_map (k : ∀ b w', b = w.heap.size → w'.heap.size = b + 1 → Ext w w' → Mp P kt enc w' b ([] : List α) → K (.map (some b)) w') : DoK P n f ⟨d, .makeMap T none, ty, pos, af, gd⟩ w K :=
  ⟨_, w.alloc (.map #[] 0), .inl (by simp [execOp, Instr.makeMap, newObj, Sem.run]), k _ _ rfl (by simp) (Out.alloc w _) ⟨⟨#[], 0, heap_alloc_new w _, rfl, fun x hx => by simp at hx⟩, fun x hx => by cases hx⟩⟩
/-- What a look-up in such a map yields. -/
theorem y_look {a : α} {kl : Lit} [Decidable (a ∈ l)] (h : Mp P kt enc w b l) (hK : Keyed P kt) (hT : P.underlying T = some (.map kt et)) (hz : ZeroOf P et (.bool false)) (hinj : ∀ c, enc c = enc a → c = a) (hkey : keyOf P kt (enc a) = some kl) (hx : ev n f x = .map (some b)) (hy : ev n f y = enc a) :
    Yl P n f ⟨d, .lookup T x y false, ty, pos, af, gd⟩ w (.bool (decide (a ∈ l))) := by
  obtain ⟨es, clock, h1, h2, h3⟩ := h.ex
  have hks : ∀ e ∈ es.toList, ∃ y, keyOf P kt e.key = some y := fun e he => by
    have hm : e.key ∈ l.map enc := by rw [← h2]; exact List.mem_map.2 ⟨e, he, rfl⟩
    obtain ⟨c, hc, hce⟩ := List.mem_map.1 hm
    rw [← hce]; exact h.key c hc
  have hr : (Instr.lookup T (.map (some b)) (enc a) false).run P w = .ok (.bool (decide (a ∈ l))) w := by
    rcases hK.find w hkey es.toList hks with ⟨q1, q2⟩ | ⟨j, e0, q1, q2, q3⟩
    · have hn : ¬ a ∈ l := fun hm => by
        have : enc a ∈ es.toList.map (·.key) := by rw [h2]; exact List.mem_map.2 ⟨a, hm, rfl⟩
        obtain ⟨e, he, hee⟩ := List.mem_map.1 this
        exact q2 e he hee
      rw [decide_eq_false hn]
      simp [Instr.lookup, run_underlying hT, MapKept.run_getObj_map h1, hK.check w _ hkey, q1, hz w, Result.andThen]
    · have hm0 : e0 ∈ es.toList := List.mem_of_getElem? q2
      have hm : a ∈ l := by
        have : e0.key ∈ l.map enc := by rw [← h2]; exact List.mem_map.2 ⟨e0, hm0, rfl⟩
        obtain ⟨c, hc, hce⟩ := List.mem_map.1 this
        rw [q3] at hce
        rw [← hinj c hce]; exact hc
      rw [decide_eq_true hm]
      simp [Instr.lookup, run_underlying hT, MapKept.run_getObj_map h1, hK.check w _ hkey, q1, h3 e0 hm0, Result.andThen]
  simp [Yl, execOp, hx, hy, hr]
/-- 'm[a] = true'. -/
theorem d_mapU {a : α} {kl : Lit} [Decidable (a ∈ l)] (h : Mp P kt enc w b l) (hK : Keyed P kt) (hT : P.underlying T = some (.map kt et)) (hinj : ∀ c, enc c = enc a → c = a) (hkey : keyOf P kt (enc a) = some kl) (hx : ev n f x = .map (some b)) (hy : ev n f y = enc a) (hv : ev n f z = .bool true)
    (k : ∀ w', w'.heap.size = w.heap.size → Out b (b + 1) w w' → Mp P kt enc w' b (if a ∈ l then l else l ++ [a]) → K undef w') : DoK P n f ⟨none, .mapUpdate T x y z, ty, pos, af, gd⟩ w K := by
  obtain ⟨es, clock, h1, h2, h3⟩ := h.ex
  have hlt := h.lt
  have hks : ∀ e ∈ es.toList, ∃ y, keyOf P kt e.key = some y := fun e he => by
    have hm : e.key ∈ l.map enc := by rw [← h2]; exact List.mem_map.2 ⟨e, he, rfl⟩
    obtain ⟨c, hc, hce⟩ := List.mem_map.1 hm
    rw [← hce]; exact h.key c hc
  have ho : ∀ o : Obj, Out b (b + 1) w { w with heap := w.heap.setIfInBounds b o } := fun o => ⟨rfl, rfl, rfl, by simp, fun i hi hs => by simp only [Array.getElem?_setIfInBounds]; rw [if_neg (by omega)]⟩
  have hh : ∀ o : Obj, ({ w with heap := w.heap.setIfInBounds b o } : World).heap[b]? = some o := fun o => by simp [hlt]
  rcases hK.find w hkey es.toList hks with ⟨q1, q2⟩ | ⟨j, e0, q1, q2, q3⟩
  · have hn : ¬ a ∈ l := fun hm => by
      have : enc a ∈ es.toList.map (·.key) := by rw [h2]; exact List.mem_map.2 ⟨a, hm, rfl⟩
      obtain ⟨e, he, hee⟩ := List.mem_map.1 this
      exact q2 e he hee
    have hr : (Instr.mapUpdate T (.map (some b)) (enc a) (.bool true)).run P w = .ok () { w with heap := w.heap.setIfInBounds b (.map (es.push ⟨enc a, .bool true, clock⟩) (clock + 1)) } := by
      simp [Instr.mapUpdate, run_underlying hT, MapKept.run_getObj_map h1, hK.check w false hkey, q1, MapKept.run_setObj_map _ h1, Result.andThen]
    refine ⟨undef, { w with heap := w.heap.setIfInBounds b (.map (es.push ⟨enc a, .bool true, clock⟩) (clock + 1)) }, .inr ⟨rfl, by simp [execOp, hx, hy, hv, hr]⟩, k _ (by simp) (ho _) ?_⟩
    rw [if_neg hn]
    refine ⟨⟨_, _, hh _, by simp [h2], fun e he => ?_⟩, fun c hc => ?_⟩
    · simp only [Array.toList_push, List.mem_append, List.mem_singleton] at he
      rcases he with he | rfl
      · exact h3 e he
      · rfl
    · rcases List.mem_append.1 hc with q | q
      · exact h.key c q
      · rw [List.mem_singleton.1 q]; exact ⟨kl, hkey⟩
  · have hm0 : e0 ∈ es.toList := List.mem_of_getElem? q2
    have hm : a ∈ l := by
      have : e0.key ∈ l.map enc := by rw [← h2]; exact List.mem_map.2 ⟨e0, hm0, rfl⟩
      obtain ⟨c, hc, hce⟩ := List.mem_map.1 this
      rw [q3] at hce
      rw [← hinj c hce]; exact hc
    have hj : es[j]? = some e0 := by rw [← Array.getElem?_toList]; exact q2
    have hr : (Instr.mapUpdate T (.map (some b)) (enc a) (.bool true)).run P w = .ok () { w with heap := w.heap.setIfInBounds b (.map (es.modify j fun e => { e with key := enc a, val := .bool true }) clock) } := by
      simp [Instr.mapUpdate, run_underlying hT, MapKept.run_getObj_map h1, hK.check w false hkey, q1, hj, q3, hK.stays w hkey, MapKept.run_setObj_map _ h1, Result.andThen]
    refine ⟨undef, { w with heap := w.heap.setIfInBounds b (.map (es.modify j fun e => { e with key := enc a, val := .bool true }) clock) }, .inr ⟨rfl, by simp [execOp, hx, hy, hv, hr]⟩, k _ (by simp) (ho _) ?_⟩
    rw [if_pos hm]
    have hmod : ∀ (i : Nat) (e : MapEntry), (es.modify j fun e => { e with key := enc a, val := .bool true })[i]? = some e → ∃ e1, es[i]? = some e1 ∧ e.key = e1.key ∧ e.val = .bool true := fun i e he => by
      rw [Array.getElem?_modify] at he
      by_cases c : j = i
      · subst c
        rw [if_pos rfl, hj] at he
        simp at he
        exact ⟨e0, hj, by rw [← he, q3], by rw [← he]⟩
      · rw [if_neg c] at he
        exact ⟨e, he, rfl, h3 e (Array.mem_toList_iff.2 (Array.mem_of_getElem? he))⟩
    refine ⟨⟨_, _, hh _, ?_, fun e he => ?_⟩, h.key⟩
    · rw [← h2]
      apply List.ext_getElem?
      intro i
      rw [List.getElem?_map, List.getElem?_map, Array.getElem?_toList, Array.getElem?_toList, Array.getElem?_modify]
      by_cases c : j = i
      · subst c; rw [if_pos rfl, hj]; simp [q3]
      · rw [if_neg c]
    · obtain ⟨i, hi, rfl⟩ := List.getElem_of_mem he
      obtain ⟨e1, _, _, h5⟩ := hmod i _ (by rw [← Array.getElem?_toList, List.getElem?_eq_getElem hi])
      exact h5
/-- 'len(m)'. -/
theorem y_lenM (h : Mp P kt enc w b l) (hT : P.underlying T = some (.map kt et)) (hx : ev n f x = .map (some b)) {Ts : Array TypeId} (hTs : Ts = #[T]) : Yl P n f ⟨d, .call ⟨.builtin .len, #[x], Ts⟩, ty, pos, af, gd⟩ w (.int .i64 (l.length : Int)) := by
  obtain ⟨es, clock, h1, h2, h3⟩ := h.ex
  subst hTs
  have hl : es.size = l.length := by have := congrArg List.length h2; simpa using this
  have hr : (Builtin.len_ #[T] ty #[.map (some b)]).run P w = .ok (.int .i64 (l.length : Int)) w := by
    simp [Builtin.len_, run_underlying hT, MapKept.run_getObj_map h1, hl, Result.andThen, goInt]
  simp [Yl, execOp, resolve, invoke, builtin, hx, hr]
end
end Go.Wk
