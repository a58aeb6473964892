/-
  Walks of the functions, printed by a program out of the code and the loops' relations.
-/
import Derived.Test.YtclligkngjhihaaWkD
import Derived.Test.YtclligkngjhihaaProg
import Derived.KernelRfl
import Derived.Test.YtclligkngjhihaaI5
namespace Go.Proofs.Ytclligkngjhihaa
open Go.Wk Go.RowKit
set_option linter.unusedVariables false
set_option linter.unusedSimpArgs false
theorem cl32 : Callable Try.prog 32 := ⟨Try.call32⟩

theorem cf_chk {N : Net} {B C : Int} {rows : List Rw} (hs : SmallNet N) (h : cfE N B = 0) (hr : rows.map Rw.l = cfW N B) (h0 : 66429 ≤ C) (h1 : C ≤ 1048576) : chkB N (cfS N B) (rows.map Rw.l) C = true ∧ chkE N (cfS N B) (rows.map Rw.l) C = 0 := by
  have l := cf_least h
  have hh : holdB N (cfS N B) (rows.map Rw.l) = true := by rw [hr]; exact hold_iff.2 ⟨l.asc, l.len, l.wit⟩
  have hsl := asc_len _ (-1) l.asc (by omega)
  have hrg : ∀ a ∈ cfS N B, 0 ≤ a ∧ a < N.acts.length := fun a ha => by have := asc_rng _ (-1) l.asc a ha; omega
  have hf : findE (subN N (cfS N B)) false C = 14 := by
    rcases small_fe (small_sub hs (by omega) hrg) h0 h1 with e | e
    · have := find_fea e; rw [l.inf] at this; cases this
    · exact e
  obtain ⟨q1, q2⟩ := chk0 (netOk_iff.2 hs.1) (by omega : 1 ≤ C ∧ C ≤ 1048576) hh (by omega)
  exact ⟨by rw [q1, hf]; rfl, q2⟩

set_option maxHeartbeats 1000000 in
set_option maxRecDepth 100000 in
theorem law18_ContradictionIsChecked_ok (a0 : Option Addr) (c0 : Nat) (l0 : List Int) (w : World) (hL0 : Ints 0 w.heap.size w a0 l0) (hl0 : (l0.length : Int) ≤ 9223372036854775807) : Cal Try.prog 11 [.slice a0 l0.length c0] w (fun v w' => v = .bool true ∧ Ext w w') := by
  have hE : Out 0 0 w w := Out.refl _ _ w
  refine enter Try.func11 rfl Try.ntmps11 rfl ?_
  refine wp_seq ?_
  refine rg ?_
  refine st (asB rfl) ?_
  refine rg_end ?_
  refine n_then ?_
  refine wp_seq ?_
  refine rg ?_
  refine st (mvS rfl) ?_
  refine sc cl18 (keep_Network_ok _ _ _ _ _ _ hL0 hl0) rfl ?_
  rintro v5 w1 ⟨N, A, rfl, hsm, hev, hac, hdis, ho2⟩
  have hN : NetIn _ _ _ N A := ⟨Ow.sl hev, Ow.sl hac⟩
  clear hev hac
  have hok := hsm.1
  have hev1 := hok.ev
  have hac8 := hsm.2.2.2.2.2.1
  have hp2 := hsm.2.1
  have hp9 := hsm.2.2.1
  have hz6 := ho2.size
  replace hL0 := hL0.ext ho2
  replace hE := hE.step ho2 (.inl (Nat.le_refl _))
  refine sd (d_allocA zer26 ?_)
  intro b3 w7 hbb3 hs9 ho8 hb3
  have hz10 := ho8.size
  replace hL0 := hL0.ext ho8
  replace hE := hE.step ho8 (.inl (Nat.le_refl _))
  replace hN := hN.ext ho8
  refine sd0 (d_stN hb3 rfl rfl sz26 rfl rfl ?_)
  intro w11 hs13 ho12 hb3'
  clear hb3; have hb3 := hb3'; clear hb3'
  have hz14 := ho12.size
  replace hL0 := hL0.out ho12 (by first | omega | (simp only [blk_some, hi1_some] at *; omega))
  replace hE := hE.step ho12 (by first | omega | (simp only [blk_some, hi1_some] at *; omega))
  replace hN := hN.out ho12 (by first | omega | (simp only [blk_some, hi1_some] at *; omega))
  refine rg_end ?_
  refine n_then ?_
  refine wp_seq ?_
  refine rg ?_
  refine st (y_lbN hb3 agg26 rfl) ?_
  refine sc cl21 (con_Find_ok N A _ _ 131072 _ hN) rfl ?_
  rintro v19 w15 ⟨aq, cq, aw, cw, rows, rfl, hcq, hQ, hW, hrw, ho16⟩
  have hz20 := ho16.size
  replace hL0 := hL0.ext ho16
  replace hE := hE.step ho16 (.inl (Nat.le_refl _))
  replace hN := hN.ext ho16
  replace hb3 := hb3.ext ho16
  refine st (mvT rfl) ?_
  refine st (y_ext rfl rfl) ?_
  refine st (y_ext rfl rfl) ?_
  refine st (y_ext rfl rfl) ?_
  refine sd (d_allocA zer46 ?_)
  intro b4 w21 hbb4 hs23 ho22 hb4
  have hz24 := ho22.size
  replace hL0 := hL0.ext ho22
  replace hE := hE.step ho22 (.inl (Nat.le_refl _))
  replace hN := hN.ext ho22
  replace hb3 := hb3.ext ho22
  replace hQ := hQ.ext ho22
  replace hW := hW.ext ho22
  refine sd0 (d_stN hb4 rfl rfl sz46 rfl rfl ?_)
  intro w25 hs27 ho26 hb4'
  clear hb4; have hb4 := hb4'; clear hb4'
  have hz28 := ho26.size
  replace hL0 := hL0.out ho26 (by first | omega | (simp only [blk_some, hi1_some] at *; omega))
  replace hE := hE.step ho26 (by first | omega | (simp only [blk_some, hi1_some] at *; omega))
  replace hN := hN.out ho26 (by first | omega | (simp only [blk_some, hi1_some] at *; omega))
  replace hb3 := hb3.out ho26 (by first | omega | (simp only [blk_some, hi1_some] at *; omega))
  replace hQ := hQ.out ho26 (by first | omega | (simp only [blk_some, hi1_some] at *; omega))
  replace hW := hW.out ho26 (by first | omega | (simp only [blk_some, hi1_some] at *; omega))
  refine st (asI rfl) ?_
  refine st (asI rfl) ?_
  refine rg_end ?_
  refine n_then ?_
  refine wp_seq ?_
  refine wp_seq ?_
  refine rg ?_
  refine st (mvI rfl) ?_
  refine st (y_neq rfl rfl) ?_
  refine rg_end ?_
  refine n_then ?_
  refine cnd rfl (fun hc0 => ?_) (fun hc0 => ?_)
  ·
    try simp only [decide_eq_true_eq, decide_eq_false_iff_not, Bool.not_eq_true', Bool.not_eq_false', Bool.and_eq_true, Bool.or_eq_true, Bool.or_eq_false_iff, Bool.cond_true_right, Bool.cond_false_right, Bool.cond_true_left, Bool.cond_false_left, ne_eq, Decidable.not_not, bne_iff_ne, beq_iff_eq, beq_eq_false_iff_ne, Bool.not_true, Bool.not_false] at hc0
    obtain ⟨n1, n2, n3⟩ := cf_none hc0
    have hz0 : ((cfS N 131072).length : Int) = 0 := by rw [n1]; rfl
    refine wp_seq ?_
    refine rg ?_
    refine sc cl16 (law18_awake_ok _) rfl ?_
    rintro v33 w29 ⟨rfl, ho30⟩
    have hz34 := ho30.size
    replace hL0 := hL0.ext ho30
    replace hE := hE.step ho30 (.inl (Nat.le_refl _))
    replace hN := hN.ext ho30
    replace hb3 := hb3.ext ho30
    replace hQ := hQ.ext ho30
    replace hW := hW.ext ho30
    replace hb4 := hb4.ext ho30
    refine st (mvB rfl) ?_
    refine stg rfl rfl rfl (y_fld fld46_0 rfl) ?_
    refine stg rfl rfl rfl (y_lb hb4 na22 rfl rfl) ?_
    refine stg rfl rfl rfl (y_len Try.underlying22 rfl) ?_
    refine stg rfl rfl rfl (y_eql rfl rfl) ?_
    refine st (y_pickT rfl rfl (v := .bool _) rfl) ?_
    refine st (mvB rfl) ?_
    refine stg rfl rfl (decide_eq_true hz0) (mvI rfl) ?_
    refine stg rfl rfl (decide_eq_true hz0) (y_eql rfl rfl) ?_
    refine st (y_pickT rfl (decide_eq_true hz0) (v := .bool _) rfl) ?_
    refine st (asB rfl) ?_
    refine rg_end ?_
    refine n_then ?_
    refine wp_ret ?_
    refine r_then (ret1 (v := (.bool _)) Try.results11 rfl ?_)
    exact ⟨congrArg Value.bool (decide_eq_true n3), hE⟩
  ·
    try simp only [decide_eq_true_eq, decide_eq_false_iff_not, Bool.not_eq_true', Bool.not_eq_false', Bool.and_eq_true, Bool.or_eq_true, Bool.or_eq_false_iff, Bool.cond_true_right, Bool.cond_false_right, Bool.cond_true_left, Bool.cond_false_left, ne_eq, Decidable.not_not, bne_iff_ne, beq_iff_eq, beq_eq_false_iff_ne, Bool.not_true, Bool.not_false] at hc0
    obtain ⟨q1, q2⟩ := cf_chk hsm hc0 hrw (C := 131072) (by omega) (by omega)
    have hcu := cf_used hsm hc0
    have hsl := cfS_len (N := N) (B := 131072)
    have hrl := congrArg List.length hrw
    rw [List.length_map, (cf_least hc0).len] at hrl
    refine wp_skip ?_
    refine n_then ?_
    refine wp_seq ?_
    refine rg ?_
    refine st (y_lbN hb3 agg26 rfl) ?_
    refine st (y_lbN hb4 agg46 rfl) ?_
    refine sc cl32 (con_Check_ok N A _ _ (cfS N 131072) _ _ _ _ rows _ _ _ _ 131072 _ hN hQ hcq (by omega) hW (by omega)) rfl ?_
    rintro v39 w35 ⟨rfl, ho36⟩
    rw [q1, q2]
    have hz40 := ho36.size
    replace hL0 := hL0.ext ho36
    replace hE := hE.step ho36 (.inl (Nat.le_refl _))
    replace hN := hN.ext ho36
    replace hb3 := hb3.ext ho36
    replace hQ := hQ.ext ho36
    replace hW := hW.ext ho36
    replace hb4 := hb4.ext ho36
    refine st (mvT rfl) ?_
    refine st (y_ext rfl rfl) ?_
    refine st (y_ext rfl rfl) ?_
    refine st (asB rfl) ?_
    refine st (asI rfl) ?_
    refine rg_end ?_
    refine n_then ?_
    refine wp_seq ?_
    refine rg ?_
    refine sc cl16 (law18_awake_ok _) rfl ?_
    rintro v45 w41 ⟨rfl, ho42⟩
    have hz46 := ho42.size
    replace hL0 := hL0.ext ho42
    replace hE := hE.step ho42 (.inl (Nat.le_refl _))
    replace hN := hN.ext ho42
    replace hb3 := hb3.ext ho42
    replace hQ := hQ.ext ho42
    replace hW := hW.ext ho42
    replace hb4 := hb4.ext ho42
    refine st (mvB rfl) ?_
    refine stg rfl rfl rfl (mvB rfl) ?_
    refine st (y_pickT rfl rfl (v := .bool _) rfl) ?_
    refine st (mvB rfl) ?_
    refine stg rfl rfl rfl (mvI rfl) ?_
    refine stg rfl rfl rfl (y_eql rfl rfl) ?_
    refine st (y_pickT rfl rfl (v := .bool _) rfl) ?_
    refine st (mvB rfl) ?_
    refine stg rfl rfl (decide_eq_true rfl) (mvI rfl) ?_
    refine stg rfl rfl (decide_eq_true rfl) (y_fld fld26_2 rfl) ?_
    refine stg rfl rfl (decide_eq_true rfl) (y_lb hb3 na24 rfl rfl) ?_
    refine stg rfl rfl (decide_eq_true rfl) (y_len Try.underlying24 rfl) ?_
    refine stg rfl rfl (decide_eq_true rfl) (y_geq rfl rfl) ?_
    refine st (y_pickT rfl (decide_eq_true rfl) (v := .bool _) rfl) ?_
    refine st (asB rfl) ?_
    refine rg_end ?_
    refine n_then ?_
    refine wp_ret ?_
    refine ret1 (v := (.bool _)) Try.results11 rfl ?_
    exact ⟨congrArg Value.bool (decide_eq_true (by omega)), hE⟩
end Go.Proofs.Ytclligkngjhihaa
