/-
  Walks of the functions, printed by a program out of the code and the loops' relations.
-/
import Derived.Test.YtclligkngjhihaaWkD
import Derived.Test.YtclligkngjhihaaProg
import Derived.KernelRfl
import Derived.Test.YtclligkngjhihaaK9
namespace Go.Proofs.Ytclligkngjhihaa
open Go.Wk Go.RowKit
set_option linter.unusedVariables false
set_option linter.unusedSimpArgs false
theorem agg58 : AggOf Try.prog 58 2 := fun w => ⟨Try.isAgg58 w, Try.sizeOf58 w⟩
theorem cl52 : Callable Try.prog 52 := ⟨Try.call52⟩
theorem cl53 : Callable Try.prog 53 := ⟨Try.call53⟩
theorem cl54 : Callable Try.prog 54 := ⟨Try.call54⟩
theorem cl55 : Callable Try.prog 55 := ⟨Try.call55⟩

set_option maxHeartbeats 1000000 in
set_option maxRecDepth 100000 in
theorem ref13_Windings_ok (N : Net) (A : NetA) (lo hi : Nat) (arcs signs : List Int) (aa : Option Addr) (ca la ha_ : Nat) (ag : Option Addr) (cg lg hg_ : Nat) (w : World) (hN : NetIn lo hi w N A) (hA : Ints la ha_ w aa arcs) (hca : arcs.length ≤ ca) (hSg : Ints lg hg_ w ag signs) (hn : (arcs.length : Int) ≤ 9223372036854775807)  : Cal Try.prog 28 [netV N A, .agg #[.slice aa arcs.length ca, .slice ag signs.length cg]] w (fun v w' => ∃ l h ok, v = .tuple #[.int .i64 l, .int .i64 h, .bool ok] ∧ (ok = true → CyOk N arcs signs ∧ l ≤ h ∧ l * N.p - N.p < bsC N arcs signs arcs.length - bwC N arcs signs arcs.length ∧ bsC N arcs signs arcs.length - bwC N arcs signs arcs.length ≤ l * N.p ∧ h * N.p ≤ bsC N arcs signs arcs.length + fwC N arcs signs arcs.length ∧ -1000000001 ≤ l ∧ h ≤ 1000000001) ∧ (CyOk N arcs signs → ∀ z : Int, bsC N arcs signs arcs.length - bwC N arcs signs arcs.length ≤ z * N.p → z * N.p ≤ bsC N arcs signs arcs.length + fwC N arcs signs arcs.length → ok = true ∧ l ≤ z ∧ z ≤ h) ∧ Ext w w') := by
 replace hN := hN.full
 replace hA := Ints.full hA
 replace hSg := Ints.full hSg
 have hE : Out 0 0 w w := Out.refl _ _ w
 refine enter Try.func28 rfl Try.ntmps28 rfl ?_
 refine wp_seq ?_
 refine rg ?_
 refine sd (d_boxA rfl ?_)
 intro b2 w1 hbb2 hs3 ho2 hb2
 have hz4 := ho2.size
 replace hN := hN.ext ho2
 replace hA := hA.ext ho2
 replace hSg := hSg.ext ho2
 replace hE := hE.step ho2 (.inl (Nat.le_refl _))
 refine sd (d_boxA rfl ?_)
 intro b3 w5 hbb3 hs7 ho6 hb3
 have hz8 := ho6.size
 replace hN := hN.ext ho6
 replace hA := hA.ext ho6
 replace hSg := hSg.ext ho6
 replace hE := hE.step ho6 (.inl (Nat.le_refl _))
 replace hb2 := hb2.ext ho6
 refine st (asI rfl) ?_
 refine st (asI rfl) ?_
 refine st (asB rfl) ?_
 refine rg_end ?_
 refine n_then ?_
 refine wp_seq ?_
 refine wp_seq ?_
 refine rg ?_
 refine st (y_lbN hb2 agg26 rfl) ?_
 refine st (y_lbN hb3 agg58 rfl) ?_
 refine sc cl52 (ref11_CheckCycle_ok N A _ _ arcs signs _ _ _ _ _ _ _ _ _ hN hA hca hSg hn) rfl ?_
 rintro v13 w9 ⟨b, rfl, hb, ho10⟩
 have hz14 := ho10.size
 replace hN := hN.ext ho10
 replace hA := hA.ext ho10
 replace hSg := hSg.ext ho10
 replace hE := hE.step ho10 (.inl (Nat.le_refl _))
 replace hb2 := hb2.ext ho10
 replace hb3 := hb3.ext ho10
 refine st (y_not rfl) ?_
 refine rg_end ?_
 refine n_then ?_
 refine cnd rfl (fun hc0 => ?_) (fun hc0 => ?_)
 ·
  try simp only [nm] at hc0
  have hno : ¬ CyOk N arcs signs := fun h => by rw [hb.2 h] at hc0; cases hc0
  refine wp_seq ?_
  refine rg ?_
  refine st (asI rfl) ?_
  refine st (asI rfl) ?_
  refine st (asB rfl) ?_
  refine rg_end ?_
  refine n_then ?_
  refine wp_ret ?_
  refine r_then (ret3 (v := (.int .i64 _)) (v' := (.int .i64 _)) (v'' := (.bool _)) Try.results28 rfl rfl rfl ?_)
  exact ⟨0, 0, false, rfl, (fun h => by cases h), fun h => absurd h hno, hE⟩
 ·
  try simp only [nm] at hc0
  have hc := hb.1 hc0
  have hok := hc.ok
  have hac := hok.ac
  have hp2 := hok.p2
  have hp7 := hok.p7
  have hcl := cy_len hc
  have hsr := sum_rng hok hc.a arcs.length (Nat.le_refl _)
  refine wp_skip ?_
  refine n_then ?_
  refine wp_seq ?_
  refine rg ?_
  refine st (y_lbN hb2 agg26 rfl) ?_
  refine st (y_lbN hb3 agg58 rfl) ?_
  refine sc cl53 (ref13_sums_ok N A _ _ arcs signs _ _ _ _ _ _ _ _ _ hN hA hca hSg hn hc) rfl ?_
  rintro v19 w15 ⟨rfl, ho16⟩
  have hz20 := ho16.size
  replace hN := hN.ext ho16
  replace hA := hA.ext ho16
  replace hSg := hSg.ext ho16
  replace hE := hE.step ho16 (.inl (Nat.le_refl _))
  replace hb2 := hb2.ext ho16
  replace hb3 := hb3.ext ho16
  refine st (mvT rfl) ?_
  refine st (y_ext rfl rfl) ?_
  refine st (y_ext rfl rfl) ?_
  refine st (y_ext rfl rfl) ?_
  refine st (asI rfl) ?_
  refine st (asI rfl) ?_
  refine st (asI rfl) ?_
  refine rg_end ?_
  refine n_then ?_
  refine wp_seq ?_
  refine rgD 11 (fun w_ => Ext w15 w_) (fun i => Nat.beq i 5) mixed (by kernel_rfl) ?_
  intro w21 ho22 hs23
  refine ⟨ho22, ?_⟩
  have hx24 := ho22
  refine tn rfl (fun _ hG => mvI rfl) ?_
  refine tn rfl (fun _ hG => mvI rfl) ?_
  refine tn rfl (fun _ hG => y_sub rfl rfl (by omega)) ?_
  refine tn rfl (fun _ hG => y_fld fld26_0 rfl) ?_
  refine tn rfl (fun _ hG => y_lb (hb2.ext hG) na3 rfl rfl) ?_
  refine tc rfl cl54 (ref1_Ceil_ok _ _ _ (by omega) (by omega)) rfl ?_
  rintro v29 w25 ⟨ql, rfl, l1, l2, l3, l4, ho26⟩
  have hx30 := hx24.step ho26 (.inl (Nat.le_refl _))
  have hz31 := ho26.size
  refine ⟨hx30, ?_⟩
  refine tn rfl (fun _ hG => mvI rfl) ?_
  refine tn rfl (fun _ hG => mvI rfl) ?_
  refine tn rfl (fun _ hG => y_add rfl rfl (by omega)) ?_
  refine tn rfl (fun _ hG => y_fld fld26_0 rfl) ?_
  refine tn rfl (fun _ hG => y_lb (hb2.ext hG) na3 rfl rfl) ?_
  refine t_end ?_
  have hz32 := hx30.size
  replace hN := hN.ext hx30
  replace hA := hA.ext hx30
  replace hSg := hSg.ext hx30
  replace hE := hE.step hx30 (.inl (Nat.le_refl _))
  replace hb2 := hb2.ext hx30
  replace hb3 := hb3.ext hx30
  refine sc cl55 (ref1_Floor_ok _ _ _ (by omega) (by omega)) rfl ?_
  rintro v37 w33 ⟨qh, rfl, h1, h2, h3, h4, ho34⟩
  have hz38 := ho34.size
  replace hN := hN.ext ho34
  replace hA := hA.ext ho34
  replace hSg := hSg.ext ho34
  replace hE := hE.step ho34 (.inl (Nat.le_refl _))
  replace hb2 := hb2.ext ho34
  replace hb3 := hb3.ext ho34
  refine st (asI rfl) ?_
  refine st (asI rfl) ?_
  refine rg_end ?_
  refine n_then ?_
  refine wp_seq ?_
  refine wp_seq ?_
  refine rg ?_
  refine st (mvI rfl) ?_
  refine st (mvI rfl) ?_
  refine st (y_gtr rfl rfl) ?_
  refine rg_end ?_
  refine n_then ?_
  refine cnd rfl (fun hc1 => ?_) (fun hc1 => ?_)
  ·
   try simp only [nm] at hc1
   refine wp_seq ?_
   refine rg ?_
   refine st (asI rfl) ?_
   refine st (asI rfl) ?_
   refine st (asB rfl) ?_
   refine rg_end ?_
   refine n_then ?_
   refine wp_ret ?_
   refine r_then (ret3 (v := (.int .i64 _)) (v' := (.int .i64 _)) (v'' := (.bool _)) Try.results28 rfl rfl rfl ?_)
   exact ⟨0, 0, false, rfl, (fun h => by cases h), (fun _ z z1 z2 => by
     have k1 := ceil_le (by omega) l2 z1
     have k2 := floor_le (by omega) h2 z2
     omega), hE⟩
  ·
   try simp only [nm] at hc1
   refine wp_skip ?_
   refine n_then ?_
   refine wp_seq ?_
   refine rg ?_
   refine st (mvI rfl) ?_
   refine st (mvI rfl) ?_
   refine st (asI rfl) ?_
   refine st (asI rfl) ?_
   refine st (asB rfl) ?_
   refine rg_end ?_
   refine n_then ?_
   refine wp_ret ?_
   refine ret3 (v := (.int .i64 _)) (v' := (.int .i64 _)) (v'' := (.bool _)) Try.results28 rfl rfl rfl ?_
   exact ⟨ql, qh, true, rfl, (fun _ => ⟨hc, by omega, l2, l1, h1, by omega, by omega⟩), (fun _ z z1 z2 => ⟨rfl, ceil_le (by omega) l2 z1, floor_le (by omega) h2 z2⟩), hE⟩
end Go.Proofs.Ytclligkngjhihaa
