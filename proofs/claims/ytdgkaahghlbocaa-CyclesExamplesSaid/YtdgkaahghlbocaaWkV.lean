/-
  Function values: making one, and calling one.
-/
import Derived.Test.YtdgkaahghlbocaaWkI
namespace Go.Wk
open Go.RowKit
set_option linter.unusedVariables false
set_option linter.unusedSimpArgs false
section
variable {P : Program} {n : Nat} {f : Nat → Value} {d : Option Tmp} {ty : TypeId} {pos : String} {af : Array Edge} {gd : Option (Nat × Bool)} {w : World} {x y z : Operand} {k : FuncId}
/-- A function literal with what it captures. -/
theorem y_mkf {caps : Array Operand} {lb : List Value} (hl : caps.toList.map (ev n f) = lb) : Yl P n f ⟨d, .makeFunc (.func k) #[] caps, ty, pos, af, gd⟩ w (.func (.func k) #[] lb.toArray) := by
  have e : caps.map (ev n f) = lb.toArray := by rw [← hl, ← Array.toList_map, Array.toArray_toList]
  simp [Yl, execOp, Instr.makeFunc, e]
theorem run_callV {args : Array Operand} {Ts : Array TypeId} {dd : Option Tmp} {g : Option (Nat × Bool)} {lb : List Value} (hc : Callable P k) (hf : ev n f x = .func (.func k) #[] lb.toArray) :
    (execOp (ev n f) ⟨dd, .call ⟨.value x, args, Ts⟩, ty, pos, af, g⟩).run P w = .ok (.enter k (args.map (ev n f) ++ lb.toArray)) w := by
  have := hc.ex
  simp [execOp, resolve, hf, Deferred.ofValue, invoke, this]
theorem argsV {args : Array Operand} {vs lb : List Value} (ha : args.toList.map (ev n f) = vs) : args.map (ev n f) ++ lb.toArray = (vs ++ lb).toArray := by
  rw [← ha]
  have e : args.map (ev n f) = (args.toList.map (ev n f)).toArray := by rw [← Array.toList_map, Array.toArray_toList]
  rw [e]; simp
end
section
variable {P : Program} {ops : Array Oper} {Q : Exit → Act → World → Prop} {rest : List Oper} {n : Nat} {L : List (Nat × Value)} {B : Nat → Value} {w : World} {ty : TypeId} {pos : String} {af : Array Edge} {d : Nat} {x : Operand} {k : FuncId}
theorem scv {args : Array Operand} {Ts : Array TypeId} {vs lb : List Value} {R : Value → World → Prop} (hc : Callable P k) (hf : ev n (lk L B) x = .func (.func k) #[] lb.toArray) (hR : Cal P k (vs ++ lb) w R) (ha : args.toList.map (ev n (lk L B)) = vs)
    (h : ∀ v w', R v w' → WL P ops Q rest (act n (lk ((d, v) :: L) B)) w') :
    WL P ops Q (⟨some d, .call ⟨.value x, args, Ts⟩, ty, pos, af, none⟩ :: rest) (act n (lk L B)) w := by
  refine ⟨wpList_plain rfl fun K hK => ?_⟩
  unfold Oper.wp
  rw [evals_act, run_callV hc hf]
  simp only [Oper.upon, argsV ha]
  refine Calls.mono hR ?_
  rintro e w' ⟨v, rfl, hr⟩
  simp only [act_put]
  exact hK _ _ (h v w' hr).out
theorem scvg {j t : Nat} {want p : Bool} {args : Array Operand} {Ts : Array TypeId} {vs lb : List Value} {R : Value → World → Prop} (hj : dstAt ops.toList j = some t) (hv : ev n (lk L B) (.tmp t) = .bool p) (hp : p = want)
    (hc : Callable P k) (hf : ev n (lk L B) x = .func (.func k) #[] lb.toArray) (hR : Cal P k (vs ++ lb) w R) (ha : args.toList.map (ev n (lk L B)) = vs)
    (h : ∀ v w', R v w' → WL P ops Q rest (act n (lk ((d, v) :: L) B)) w') :
    WL P ops Q (⟨some d, .call ⟨.value x, args, Ts⟩, ty, pos, af, some (j, want)⟩ :: rest) (act n (lk L B)) w := by
  refine ⟨wpList_step fun K hK => ?_⟩
  have hw : Region.wanted (⟨some d, .call ⟨.value x, args, Ts⟩, ty, pos, af, some (j, want)⟩ : Oper) (yielded ops (act n (lk L B)).tmps) = true := by
    simp [Region.wanted, yielded_act hj hv, hp]
  rw [if_pos hw]
  unfold Oper.wp
  rw [evals_act, run_callV hc hf]
  simp only [Oper.upon, argsV ha]
  refine Calls.mono hR ?_
  rintro e w' ⟨v, rfl, hr⟩
  simp only [act_put]
  exact hK _ _ (h v w' hr).out
end
section
variable {P : Program} {ops : Array Oper} {G : World → Prop} {ch : Nat → Bool} {Q : Act → World → Prop} {rest : List Oper} {n i : Nat} {L : List (Nat × Value)} {B : Nat → Value} {w : World}
  {ty : TypeId} {pos : String} {af : Array Edge} {d : Nat} {x : Operand} {k : FuncId}
theorem tcv {args : Array Operand} {Ts : Array TypeId} {vs lb : List Value} {R : Value → World → Prop} (hi : ch i = true) (hc : Callable P k) (hf : ev n (lk L B) x = .func (.func k) #[] lb.toArray) (hR : Cal P k (vs ++ lb) w R) (ha : args.toList.map (ev n (lk L B)) = vs)
    (h : ∀ v w', R v w' → G w' ∧ WT P ops G ch Q rest (i + 1) (act n (lk ((d, v) :: L) B)) w') :
    WT P ops G ch Q (⟨some d, .call ⟨.value x, args, Ts⟩, ty, pos, af, none⟩ :: rest) i (act n (lk L B)) w := by
  refine ⟨?_⟩
  unfold wpT oStep1
  rw [if_pos (by simp [Region.wanted]), hi, if_pos rfl]
  unfold chn
  rw [evals_act, run_callV hc hf]
  simp only [chnUpon, argsV ha]
  refine Calls.mono hR ?_
  rintro e w' ⟨v, rfl, hr⟩
  exact ⟨v, rfl, by rw [act_put]; exact ⟨(h v w' hr).1, (h v w' hr).2.out⟩⟩
theorem tcvg {j t : Nat} {want p : Bool} {args : Array Operand} {Ts : Array TypeId} {vs lb : List Value} {R : Value → World → Prop} (hi : ch i = true) (hj : dstAt ops.toList j = some t) (hv : ev n (lk L B) (.tmp t) = .bool p) (hp : p = want)
    (hc : Callable P k) (hf : ev n (lk L B) x = .func (.func k) #[] lb.toArray) (hR : Cal P k (vs ++ lb) w R) (ha : args.toList.map (ev n (lk L B)) = vs)
    (h : ∀ v w', R v w' → G w' ∧ WT P ops G ch Q rest (i + 1) (act n (lk ((d, v) :: L) B)) w') :
    WT P ops G ch Q (⟨some d, .call ⟨.value x, args, Ts⟩, ty, pos, af, some (j, want)⟩ :: rest) i (act n (lk L B)) w := by
  refine ⟨?_⟩
  unfold wpT oStep1
  rw [if_pos (by simp [Region.wanted, yielded_act hj hv, hp]), hi, if_pos rfl]
  unfold chn
  rw [evals_act, run_callV hc hf]
  simp only [chnUpon, argsV ha]
  refine Calls.mono hR ?_
  rintro e w' ⟨v, rfl, hr⟩
  exact ⟨v, rfl, by rw [act_put]; exact ⟨(h v w' hr).1, (h v w' hr).2.out⟩⟩
end
/-- An operation that only reads, in a place of its own in the order. -/
theorem d_y {P : Program} {n : Nat} {f : Nat → Value} {o : Oper} {w : World} {v : Value} {K : Value → World → Prop} (h : Yl P n f o w v) (k : K v w) : DoK P n f o w K := ⟨v, w, .inl h, k⟩
/-- The shape of a slice: the same in every world. -/
theorem Sl.shape {α : Type} {enc : α → List Value} {sz lo hi : Nat} {w : World} {ad : Option Addr} {l : List α} (h : Sl enc sz lo hi w ad l) (x : World) : Sl (fun _ : Unit => ([] : List Value)) sz lo hi x ad (List.replicate l.length ()) :=
  ⟨fun hne => h.plain (fun e => hne (by rw [e]; rfl)), fun i y hy j z hz => by simp at hz⟩
end Go.Wk
