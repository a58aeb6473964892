/-
  Walks of the functions, printed by a program out of the code and the loops' relations.
-/
import Derived.Test.YtgekfafangcggaaWkF
import Derived.Test.YtgekfafangcggaaProg
import Derived.KernelRfl
import Derived.WalkKit
import Derived.Test.YtgekfafangcggaaKeep
import Derived.Test.YtgekfafangcggaaB1
namespace Go.Proofs.Ytgekfafangcggaa
open Go.Wk Go.RowKit
set_option linter.unusedVariables false
set_option linter.unusedSimpArgs false
theorem eqS36 (a0 a1 a2 a3 a4 a5 b0 b1 b2 b3 b4 b5 : Int) : EqOf Try.prog 36 (.agg [.int .i64 a0, .int .i64 a1, .int .i64 a2, .int .i64 a3, .int .i64 a4, .int .i64 a5].toArray) (.agg [.int .i64 b0, .int .i64 b1, .int .i64 b2, .int .i64 b3, .int .i64 b4, .int .i64 b5].toArray) (a0 == b0 && (a1 == b1 && (a2 == b2 && (a3 == b3 && (a4 == b4 && (a5 == b5)))))) := by
  intro w
  have u_i := Try.underlying3
  have a_i := Try.isAgg3
  have z_i := Try.sizeOf3
  have hS : Try.prog.underlying 36 = some (.struct (Try.prog.fieldsOf 36)) := by kernel_rfl
  rw [show (10000 : Nat) = 9999 + 1 from rfl, run_equalIn_agg w 9999 36 _ _ hS (by kernel_rfl)]
  simp only [Program.fieldsOf, Try.underlying36]
  go_simp
  by_cases h0 : a0 = b0 <;> by_cases h1 : a1 = b1 <;> by_cases h2 : a2 = b2 <;> by_cases h3 : a3 = b3 <;> by_cases h4 : a4 = b4 <;> by_cases h5 : a5 = b5 <;> simp [h0, h1, h2, h3, h4, h5]
theorem eqS63 (a0 a1 a2 b0 b1 b2 : Int) : EqOf Try.prog 63 (.agg [.int .i64 a0, .int .i64 a1, .int .i64 a2].toArray) (.agg [.int .i64 b0, .int .i64 b1, .int .i64 b2].toArray) (a0 == b0 && (a1 == b1 && (a2 == b2))) := by
  intro w
  have u_i := Try.underlying3
  have a_i := Try.isAgg3
  have z_i := Try.sizeOf3
  have hS : Try.prog.underlying 63 = some (.struct (Try.prog.fieldsOf 63)) := by kernel_rfl
  rw [show (10000 : Nat) = 9999 + 1 from rfl, run_equalIn_agg w 9999 63 _ _ hS (by kernel_rfl)]
  simp only [Program.fieldsOf, Try.underlying63]
  go_simp
  by_cases h0 : a0 = b0 <;> by_cases h1 : a1 = b1 <;> by_cases h2 : a2 = b2 <;> simp [h0, h1, h2]
theorem eqg36 : Try.prog.eqGuardType Try.prog.depth 36 = false := by kernel_rfl
theorem eqg63 : Try.prog.eqGuardType Try.prog.depth 63 = false := by kernel_rfl

theorem eqEv (a b : Ev) : EqOf Try.prog 63 (.agg (encEv a).toArray) (.agg (encEv b).toArray) (decide (a = b)) := by
  intro w
  refine (eqS63 a.kd a.ln a.rd b.kd b.ln b.rd w).trans ?_
  congr 1
  rw [Bool.eq_iff_iff]
  cases a; cases b
  simp
theorem eqAc (a b : Ac) : EqOf Try.prog 36 (.agg (encAc a).toArray) (.agg (encAc b).toArray) (decide (a = b)) := by
  intro w
  refine (eqS36 a.kd a.fr a.tt a.mn a.mx a.wt b.kd b.fr b.tt b.mn b.mx b.wt w).trans ?_
  congr 1
  rw [Bool.eq_iff_iff]
  cases a; cases b
  simp
theorem list_ext_elG {α : Type} [Inhabited α] {a b : List α} (hl : a.length = b.length) (h : ∀ q : Nat, q < a.length → el a q = el b q) : a = b := by
  apply List.ext_getElem hl
  intro i h1 h2
  have := h i h1
  simpa [el, h1, h2] using this
/-- The greatest durations made smaller. -/
def slackW (p : Int) (a : Ac) : Ac := { a with mx := min (a.mx + p.tdiv 2) (a.mn + p - 1) }
theorem slack_len {p : Int} {acts : List Ac} {k : Nat} (hk : k ≤ acts.length) : (((acts.take k).map (slackW p)) ++ acts.drop k).length = acts.length := by simp; omega
theorem slack_el {p : Int} {acts : List Ac} {k : Nat} (hk : k < acts.length) : el (((acts.take k).map (slackW p)) ++ acts.drop k) (k : Int) = el acts (k : Int) := by
  have hl : ((acts.take k).map (slackW p)).length = k := by simp; omega
  simp only [el, Int.toNat_natCast, List.getD_eq_getElem?_getD]
  rw [List.getElem?_append_right (by omega), hl, Nat.sub_self, List.getElem?_drop, Nat.add_zero]
theorem slack_set {p : Int} {acts : List Ac} {k : Nat} (hk : k < acts.length) :
    (((acts.take k).map (slackW p)) ++ acts.drop k).set k (slackW p (el acts (k : Int))) = ((acts.take (k + 1)).map (slackW p)) ++ acts.drop (k + 1) := by
  have he : el acts (k : Int) = acts[k] := by simp [el, hk]
  rw [he, List.take_succ_eq_append_getElem hk, List.map_append, List.drop_eq_getElem_cons hk]
  have hl : ((acts.take k).map (slackW p)).length = k := by simp; omega
  rw [List.set_append_right _ _ (by omega), hl, Nat.sub_self, List.set_cons_zero, List.append_assoc]
  rfl
end Go.Proofs.Ytgekfafangcggaa
