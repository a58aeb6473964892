/-
  Walks of the functions, printed by a program out of the code and the loops' relations.
-/
import Derived.Test.YtclligkngjhihaaWkF
import Derived.Test.YtclligkngjhihaaProg
import Derived.KernelRfl
import Derived.WalkKit
import Derived.Test.YtclligkngjhihaaKeep
import Derived.Test.YtclligkngjhihaaB1
namespace Go.Proofs.Ytclligkngjhihaa
open Go.Wk Go.RowKit
set_option linter.unusedVariables false
set_option linter.unusedSimpArgs false
theorem bsl23_0  (w : World) : (Instr.buildSlice 23 0 [].toArray).run Try.prog w = .ok (.slice (some ⟨w.heap.size, 0, none⟩) 0 0) (w.alloc (.cells [].toArray 34)) := by kernel_rfl
theorem eqS34 (a0 a1 a2 b0 b1 b2 : Int) : EqOf Try.prog 34 (.agg [.int .i64 a0, .int .i64 a1, .int .i64 a2].toArray) (.agg [.int .i64 b0, .int .i64 b1, .int .i64 b2].toArray) (a0 == b0 && (a1 == b1 && (a2 == b2))) := by
  intro w
  have u_i := Try.underlying3
  have a_i := Try.isAgg3
  have z_i := Try.sizeOf3
  have hS : Try.prog.underlying 34 = some (.struct (Try.prog.fieldsOf 34)) := by kernel_rfl
  rw [show (10000 : Nat) = 9999 + 1 from rfl, run_equalIn_agg w 9999 34 _ _ hS (by kernel_rfl)]
  simp only [Program.fieldsOf, Try.underlying34]
  go_simp
  by_cases h0 : a0 = b0 <;> by_cases h1 : a1 = b1 <;> by_cases h2 : a2 = b2 <;> simp [h0, h1, h2]
theorem eqS36 (a0 a1 a2 a3 a4 a5 b0 b1 b2 b3 b4 b5 : Int) : EqOf Try.prog 36 (.agg [.int .i64 a0, .int .i64 a1, .int .i64 a2, .int .i64 a3, .int .i64 a4, .int .i64 a5].toArray) (.agg [.int .i64 b0, .int .i64 b1, .int .i64 b2, .int .i64 b3, .int .i64 b4, .int .i64 b5].toArray) (a0 == b0 && (a1 == b1 && (a2 == b2 && (a3 == b3 && (a4 == b4 && (a5 == b5)))))) := by
  intro w
  have u_i := Try.underlying3
  have a_i := Try.isAgg3
  have z_i := Try.sizeOf3
  have hS : Try.prog.underlying 36 = some (.struct (Try.prog.fieldsOf 36)) := by kernel_rfl
  rw [show (10000 : Nat) = 9999 + 1 from rfl, run_equalIn_agg w 9999 36 _ _ hS (by kernel_rfl)]
  simp only [Program.fieldsOf, Try.underlying36]
  go_simp
  by_cases h0 : a0 = b0 <;> by_cases h1 : a1 = b1 <;> by_cases h2 : a2 = b2 <;> by_cases h3 : a3 = b3 <;> by_cases h4 : a4 = b4 <;> by_cases h5 : a5 = b5 <;> simp [h0, h1, h2, h3, h4, h5]
theorem eqg34 : Try.prog.eqGuardType Try.prog.depth 34 = false := by kernel_rfl
theorem eqg36 : Try.prog.eqGuardType Try.prog.depth 36 = false := by kernel_rfl

theorem eqEv (a b : Ev) : EqOf Try.prog 34 (.agg (encEv a).toArray) (.agg (encEv b).toArray) (decide (a = b)) := by
  intro w
  refine (eqS34 a.kd a.ln a.rd b.kd b.ln b.rd w).trans ?_
  congr 1
  rw [Bool.eq_iff_iff]
  cases a; cases b
  simp
theorem eqAc (a b : Ac) : EqOf Try.prog 36 (.agg (encAc a).toArray) (.agg (encAc b).toArray) (decide (a = b)) := by
  intro w
  refine (eqS36 a.kd a.fr a.tt a.mn a.mx a.wt b.kd b.fr b.tt b.mn b.mx b.wt w).trans ?_
  congr 1
  rw [Bool.eq_iff_iff]
  cases a; cases b
  simp
theorem list_ext_elG {α : Type} [Inhabited α] {a b : List α} (hl : a.length = b.length) (h : ∀ q : Nat, q < a.length → el a q = el b q) : a = b := by
  apply List.ext_getElem hl
  intro i h1 h2
  have := h i h1
  simpa [el, h1, h2] using this
/-- The greatest durations made smaller. -/
def slackW (p : Int) (a : Ac) : Ac := { a with mx := min (a.mx + p.tdiv 2) (a.mn + p - 1) }
theorem slack_len {p : Int} {acts : List Ac} {k : Nat} (hk : k ≤ acts.length) : (((acts.take k).map (slackW p)) ++ acts.drop k).length = acts.length := by simp; omega
theorem slack_el {p : Int} {acts : List Ac} {k : Nat} (hk : k < acts.length) : el (((acts.take k).map (slackW p)) ++ acts.drop k) (k : Int) = el acts (k : Int) := by
  have hl : ((acts.take k).map (slackW p)).length = k := by simp; omega
  simp only [el, Int.toNat_natCast, List.getD_eq_getElem?_getD]
  rw [List.getElem?_append_right (by omega), hl, Nat.sub_self, List.getElem?_drop, Nat.add_zero]
theorem slack_set {p : Int} {acts : List Ac} {k : Nat} (hk : k < acts.length) :
    (((acts.take k).map (slackW p)) ++ acts.drop k).set k (slackW p (el acts (k : Int))) = ((acts.take (k + 1)).map (slackW p)) ++ acts.drop (k + 1) := by
  have he : el acts (k : Int) = acts[k] := by simp [el, hk]
  rw [he, List.take_succ_eq_append_getElem hk, List.map_append, List.drop_eq_getElem_cons hk]
  have hl : ((acts.take k).map (slackW p)).length = k := by simp; omega
  rw [List.set_append_right _ _ (by omega), hl, Nat.sub_self, List.set_cons_zero, List.append_assoc]
  rfl

set_option maxRecDepth 100000 in
theorem clone_Ev_ok (ad : Option Addr) (c : Nat) (l : List Ev) (lo hi : Nat) (w : World) (hL : Sl encEv 3 lo hi w ad l) (hn : (l.length : Int) ≤ 1000000) : Cal Try.prog 63 [.slice ad l.length c] w (fun v w' => ∃ ad' c', v = .slice ad' l.length c' ∧ Ow 34 encEv 3 w.heap.size w'.heap.size w' ad' c' l ∧ Ext w w') := by
 replace hL := Sl.full (fun _ => by simp [encEv]) hL
 have hE : Out 0 0 w w := Out.refl _ _ w
 refine enter Try.func63 rfl Try.ntmps63 rfl ?_
 refine wp_seq ?_
 refine rg ?_
 refine st (asS rfl) ?_
 refine rg_end ?_
 refine n_then ?_
 refine wp_seq ?_
 refine wp_seq ?_
 refine rg ?_
 refine st (mvS rfl) ?_
 refine st (y_nilS Try.underlying23 rfl rfl) ?_
 refine rg_end ?_
 refine n_then ?_
 refine cnd rfl (fun hc0 => ?_) (fun hc0 => ?_)
 ·
  try simp only [nm] at hc0
  have hnil : l = [] := by
    cases ad with
    | none => exact Classical.byContradiction fun h => by obtain ⟨⟨b, o, e⟩, _⟩ := hL.plain h; cases e
    | some a => simp at hc0
  refine wp_seq ?_
  refine rg ?_
  refine st (asS rfl) ?_
  refine rg_end ?_
  refine n_then ?_
  refine wp_ret ?_
  refine r_then (ret1 (v := (.slice _ _ _)) Try.results63 rfl ?_)
  subst hnil
  exact ⟨none, 0, rfl, Ow.nil (fun _ => rfl), hE⟩
 ·
  try simp only [nm] at hc0
  have hsome : ad.isSome = true := by cases ad with | none => simp at hc0 | some a => rfl
  refine wp_skip ?_
  refine n_then ?_
  refine wp_seq ?_
  refine rg ?_
  refine sd (d_bs0 (sz := 3) (lo := w.heap.size) (enc := encEv) (fun _ => rfl) (bsl23_0 _) rfl (by omega) ?_)
  intro b0 w1 hbb0 hs3 ho2 hm
  have hz5 := ho2.size
  replace hL := hL.ext ho2
  replace hE := hE.step ho2 (.inl (Nat.le_refl _))
  refine st (mvS rfl) ?_
  have hrhm := hm.rng
  refine sd (d_appS (xs := l) hm sl23 infoz34 (by decide) rfl rfl rfl (rfl) (hsome) (hL) (fun _ => rfl) (by simp; unfold maxLen; omega) (by simp; omega) (by omega) (by omega) ?_)
  intro ad2 cc2 w6 ho7 hm'
  have hs8 := ho7.size
  clear hm; have hm := hm'; clear hm'
  have hz11 := ho7.size
  replace hL := hL.out ho7 (by first | omega | (simp only [blk_some, hi1_some] at *; omega))
  replace hE := hE.step ho7 (by first | omega | (simp only [blk_some, hi1_some] at *; omega))
  refine st (asS rfl) ?_
  refine rg_end ?_
  refine n_then ?_
  refine wp_ret ?_
  refine ret1 (v := (.slice _ _ _)) Try.results63 rfl ?_
  exact ⟨ad2, cc2, by simp, by simpa using hm, hE⟩
end Go.Proofs.Ytclligkngjhihaa
