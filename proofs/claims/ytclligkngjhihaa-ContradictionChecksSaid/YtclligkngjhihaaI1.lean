/-
  Walks of the functions, printed by a program out of the code and the loops' relations.
-/
import Derived.Test.YtclligkngjhihaaWkG
import Derived.Test.YtclligkngjhihaaProg
import Derived.KernelRfl
import Derived.Test.YtclligkngjhihaaH9
namespace Go.Proofs.Ytclligkngjhihaa
open Go.Wk Go.RowKit
set_option linter.unusedVariables false
set_option linter.unusedSimpArgs false
theorem cl23 : Callable Try.prog 23 := ⟨Try.call23⟩
theorem cl24 : Callable Try.prog 24 := ⟨Try.call24⟩

set_option maxHeartbeats 2000000 in
set_option maxRecDepth 100000 in
theorem law18_ContradictionIsLeast_ok (a0 : Option Addr) (c0 : Nat) (l0 : List Int) (a1 : Option Addr) (c1 : Nat) (l1 : List Int) (pk : Int) (w : World) (hL0 : Ints 0 w.heap.size w a0 l0) (hl0 : (l0.length : Int) ≤ 9223372036854775807) (hL1 : Ints 0 w.heap.size w a1 l1) (hl1 : (l1.length : Int) ≤ 9223372036854775807) : Cal Try.prog 5 [.slice a0 l0.length c0, .slice a1 l1.length c1, .int .i64 pk] w (fun v w' => v = .bool true ∧ Ext w w') := by
  have hE : Out 0 0 w w := Out.refl _ _ w
  refine enter Try.func5 rfl Try.ntmps5 rfl ?_
  refine wp_seq ?_
  refine rg ?_
  refine st (asB rfl) ?_
  refine rg_end ?_
  refine n_then ?_
  refine wp_seq ?_
  refine rg ?_
  refine st (mvS rfl) ?_
  refine sc cl18 (keep_Network_ok _ _ _ _ _ _ hL0 hl0) rfl ?_
  rintro v5 w1 ⟨N, A, rfl, hsm, hev, hac, hdis, ho2⟩
  have hN : NetIn _ _ _ N A := ⟨Ow.sl hev, Ow.sl hac⟩
  clear hev hac
  have hok := hsm.1
  have hev1 := hok.ev
  have hac8 := hsm.2.2.2.2.2.1
  have hp2 := hsm.2.1
  have hp9 := hsm.2.2.1
  have hz6 := ho2.size
  replace hL0 := hL0.ext ho2
  replace hL1 := hL1.ext ho2
  replace hE := hE.step ho2 (.inl (Nat.le_refl _))
  refine sd (d_allocA zer26 ?_)
  intro b7 w7 hbb7 hs9 ho8 hb7
  have hz10 := ho8.size
  replace hL0 := hL0.ext ho8
  replace hL1 := hL1.ext ho8
  replace hE := hE.step ho8 (.inl (Nat.le_refl _))
  replace hN := hN.ext ho8
  refine sd0 (d_stN hb7 rfl rfl sz26 rfl rfl ?_)
  intro w11 hs13 ho12 hb7'
  clear hb7; have hb7 := hb7'; clear hb7'
  have hz14 := ho12.size
  replace hL0 := hL0.out ho12 (by first | omega | (simp only [blk_some, hi1_some] at *; omega))
  replace hL1 := hL1.out ho12 (by first | omega | (simp only [blk_some, hi1_some] at *; omega))
  replace hE := hE.step ho12 (by first | omega | (simp only [blk_some, hi1_some] at *; omega))
  replace hN := hN.out ho12 (by first | omega | (simp only [blk_some, hi1_some] at *; omega))
  refine rg_end ?_
  refine n_then ?_
  refine wp_seq ?_
  refine rg ?_
  refine st (y_lbN hb7 agg26 rfl) ?_
  refine sc cl21 (con_Find_ok N A _ _ 1048576 _ hN) rfl ?_
  rintro v19 w15 ⟨aq, cq, aw, cw, rows, rfl, hcq, hQ, hW, hrw, ho16⟩
  have hz20 := ho16.size
  replace hL0 := hL0.ext ho16
  replace hL1 := hL1.ext ho16
  replace hE := hE.step ho16 (.inl (Nat.le_refl _))
  replace hN := hN.ext ho16
  replace hb7 := hb7.ext ho16
  refine st (mvT rfl) ?_
  refine st (y_ext rfl rfl) ?_
  refine st (y_ext rfl rfl) ?_
  refine st (y_ext rfl rfl) ?_
  refine sd (d_allocA zer46 ?_)
  intro b8 w21 hbb8 hs23 ho22 hb8
  have hz24 := ho22.size
  replace hL0 := hL0.ext ho22
  replace hL1 := hL1.ext ho22
  replace hE := hE.step ho22 (.inl (Nat.le_refl _))
  replace hN := hN.ext ho22
  replace hb7 := hb7.ext ho22
  replace hQ := hQ.ext ho22
  replace hW := hW.ext ho22
  refine sd0 (d_stN hb8 rfl rfl sz46 rfl rfl ?_)
  intro w25 hs27 ho26 hb8'
  clear hb8; have hb8 := hb8'; clear hb8'
  have hz28 := ho26.size
  replace hL0 := hL0.out ho26 (by first | omega | (simp only [blk_some, hi1_some] at *; omega))
  replace hL1 := hL1.out ho26 (by first | omega | (simp only [blk_some, hi1_some] at *; omega))
  replace hE := hE.step ho26 (by first | omega | (simp only [blk_some, hi1_some] at *; omega))
  replace hN := hN.out ho26 (by first | omega | (simp only [blk_some, hi1_some] at *; omega))
  replace hb7 := hb7.out ho26 (by first | omega | (simp only [blk_some, hi1_some] at *; omega))
  replace hQ := hQ.out ho26 (by first | omega | (simp only [blk_some, hi1_some] at *; omega))
  replace hW := hW.out ho26 (by first | omega | (simp only [blk_some, hi1_some] at *; omega))
  refine st (asI rfl) ?_
  refine st (asI rfl) ?_
  refine rg_end ?_
  refine n_then ?_
  refine wp_seq ?_
  refine wp_seq ?_
  refine rg ?_
  refine st (mvI rfl) ?_
  refine st (y_neq rfl rfl) ?_
  refine rg_end ?_
  refine n_then ?_
  refine cnd rfl (fun hc0 => ?_) (fun hc0 => ?_)
  ·
    try simp only [decide_eq_true_eq, decide_eq_false_iff_not, Bool.not_eq_true', Bool.not_eq_false', Bool.and_eq_true, Bool.or_eq_true, Bool.or_eq_false_iff, Bool.cond_true_right, Bool.cond_false_right, Bool.cond_true_left, Bool.cond_false_left, ne_eq, Decidable.not_not, bne_iff_ne, beq_iff_eq, beq_eq_false_iff_ne, Bool.not_true, Bool.not_false] at hc0
    have her := cfE_err (N := N) (B := 1048576) hok (by omega)
    refine wp_seq ?_
    refine rg ?_
    refine sc cl16 (law18_awake_ok _) rfl ?_
    rintro v33 w29 ⟨rfl, ho30⟩
    have hz34 := ho30.size
    replace hL0 := hL0.ext ho30
    replace hL1 := hL1.ext ho30
    replace hE := hE.step ho30 (.inl (Nat.le_refl _))
    replace hN := hN.ext ho30
    replace hb7 := hb7.ext ho30
    replace hQ := hQ.ext ho30
    replace hW := hW.ext ho30
    replace hb8 := hb8.ext ho30
    refine st (mvB rfl) ?_
    refine stg rfl rfl rfl (mvI rfl) ?_
    refine stg rfl rfl rfl (y_eql rfl rfl) ?_
    refine stg rfl rfl rfl (mvB rfl) ?_
    refine gspL 29 rfl (fun hg35 => ?_) (fun hg35 => ?_)
    ·
      have hg35n := hg35; try simp only [decide_eq_true_eq, decide_eq_false_iff_not, Bool.not_eq_true', Bool.not_eq_false', Bool.and_eq_true, Bool.or_eq_true, Bool.or_eq_false_iff, Bool.cond_true_right, Bool.cond_false_right, Bool.cond_true_left, Bool.cond_false_left, ne_eq, Decidable.not_not, bne_iff_ne, beq_iff_eq, beq_eq_false_iff_ne, Bool.not_true, Bool.not_false] at hg35n
      refine sts rfl rfl hg35 ?_
      refine sts rfl rfl hg35 ?_
      refine stg rfl rfl rfl (y_pickT rfl hg35 (v := .bool _) rfl) ?_
      refine st (y_pickT rfl rfl (v := .bool _) rfl) ?_
      refine st (asB rfl) ?_
      refine rg_end ?_
      refine n_then ?_
      refine wp_ret ?_
      refine r_then (ret1 (v := (.bool _)) Try.results5 rfl ?_)
      first
        | exact ⟨rfl, hE⟩
        | exact ⟨vb (by simp; omega), hE⟩
    ·
      have hg35n := hg35; try simp only [decide_eq_true_eq, decide_eq_false_iff_not, Bool.not_eq_true', Bool.not_eq_false', Bool.and_eq_true, Bool.or_eq_true, Bool.or_eq_false_iff, Bool.cond_true_right, Bool.cond_false_right, Bool.cond_true_left, Bool.cond_false_left, ne_eq, Decidable.not_not, bne_iff_ne, beq_iff_eq, beq_eq_false_iff_ne, Bool.not_true, Bool.not_false] at hg35n
      refine stg rfl rfl hg35 (mvI rfl) ?_
      refine stg rfl rfl hg35 (y_eql rfl rfl) ?_
      refine stg rfl rfl rfl (y_pickF rfl hg35 (v := .bool _) rfl) ?_
      refine st (y_pickT rfl rfl (v := .bool _) rfl) ?_
      refine st (asB rfl) ?_
      refine rg_end ?_
      refine n_then ?_
      refine wp_ret ?_
      refine r_then (ret1 (v := (.bool _)) Try.results5 rfl ?_)
      first
        | exact ⟨rfl, hE⟩
        | exact ⟨vb (by simp; omega), hE⟩
  ·
    try simp only [decide_eq_true_eq, decide_eq_false_iff_not, Bool.not_eq_true', Bool.not_eq_false', Bool.and_eq_true, Bool.or_eq_true, Bool.or_eq_false_iff, Bool.cond_true_right, Bool.cond_false_right, Bool.cond_true_left, Bool.cond_false_left, ne_eq, Decidable.not_not, bne_iff_ne, beq_iff_eq, beq_eq_false_iff_ne, Bool.not_true, Bool.not_false] at hc0
    have hlst := cf_least hc0
    have hne0 : ¬ (((cfS N 1048576).length : Int) = 0) := fun h => hlst.ne (List.eq_nil_of_length_eq_zero (by omega))
    have hrl : (rows.length : Int) = (cfS N 1048576).length := by have := congrArg List.length hrw; rw [List.length_map, hlst.len] at this; omega
    have hsl := asc_len _ (-1) hlst.asc (by omega)
    refine wp_skip ?_
    refine n_then ?_
    refine wp_seq ?_
    refine wp_seq ?_
    refine rg ?_
    refine st (y_fld fld46_0 rfl) ?_
    refine st (y_lb hb8 na22 rfl rfl) ?_
    refine st (y_len Try.underlying22 rfl) ?_
    refine st (y_eql rfl rfl) ?_
    refine st (mvB rfl) ?_
    refine stg rfl rfl (decide_eq_false hne0) (y_fld fld46_1 rfl) ?_
    refine stg rfl rfl (decide_eq_false hne0) (y_lb hb8 na44 rfl rfl) ?_
    refine stg rfl rfl (decide_eq_false hne0) (y_len Try.underlying44 rfl) ?_
    refine stg rfl rfl (decide_eq_false hne0) (y_fld fld46_0 rfl) ?_
    refine stg rfl rfl (decide_eq_false hne0) (y_lb hb8 na22 rfl rfl) ?_
    refine stg rfl rfl (decide_eq_false hne0) (y_len Try.underlying22 rfl) ?_
    refine stg rfl rfl (decide_eq_false hne0) (y_neq rfl rfl) ?_
    refine st (y_pickF rfl (decide_eq_false hne0) (v := .bool _) rfl) ?_
    refine st (mvB rfl) ?_
    refine stg rfl rfl (decide_eq_false (not_not_intro hrl)) (y_fld fld46_0 rfl) ?_
    refine stg rfl rfl (decide_eq_false (not_not_intro hrl)) (y_lb hb8 na22 rfl rfl) ?_
    refine stg rfl rfl (decide_eq_false (not_not_intro hrl)) (y_fld fld26_2 rfl) ?_
    refine stg rfl rfl (decide_eq_false (not_not_intro hrl)) (y_lb hb7 na24 rfl rfl) ?_
    refine stg rfl rfl (decide_eq_false (not_not_intro hrl)) (y_len Try.underlying24 rfl) ?_
    refine stg rfl rfl (decide_eq_false (not_not_intro hrl)) (y_sub rfl rfl (by omega)) ?_
    refine scg rfl rfl (decide_eq_false (not_not_intro hrl)) cl22 (ref17_AscN_ok (cfS N 1048576) _ _ _ _ (N.acts.length : Int) _ hQ (by omega)) rfl ?_
    rintro v40 w36 ⟨rfl, ho37⟩
    have hz41 := ho37.size
    replace hL0 := hL0.ext ho37
    replace hL1 := hL1.ext ho37
    replace hE := hE.step ho37 (.inl (Nat.le_refl _))
    replace hN := hN.ext ho37
    replace hb7 := hb7.ext ho37
    replace hQ := hQ.ext ho37
    replace hW := hW.ext ho37
    replace hb8 := hb8.ext ho37
    refine stg rfl rfl (decide_eq_false (not_not_intro hrl)) (y_not rfl) ?_
    refine st (y_pickF rfl (decide_eq_false (not_not_intro hrl)) (v := .bool _) rfl) ?_
    refine rg_end ?_
    refine n_then ?_
    refine cnd rfl (fun hc1 => absurd ((congrArg Bool.not hlst.asc).symm.trans hc1) (by decide)) (fun hc1 => ?_)
    refine wp_skip ?_
    refine n_then ?_
    refine wp_seq ?_
    refine rg ?_
    refine st (y_lbN hb7 agg26 rfl) ?_
    refine st (y_fld fld46_0 rfl) ?_
    refine st (y_lb hb8 na22 rfl rfl) ?_
    refine sc cl23 (ref17_Subset_ok N A _ _ (cfS N 1048576) _ _ _ _ _ hN hQ (by omega)) rfl ?_
    rintro v46 w42 ⟨A2, rfl, hM, ho43⟩
    obtain ⟨q1, q2⟩ := subE0 (netOk_iff.2 hok) hlst.asc
    rw [q2] at hM
    rw [q1, q2]
    have hz47 := ho43.size
    replace hL0 := hL0.ext ho43
    replace hL1 := hL1.ext ho43
    replace hE := hE.step ho43 (.inl (Nat.le_refl _))
    replace hN := hN.ext ho43
    replace hb7 := hb7.ext ho43
    replace hQ := hQ.ext ho43
    replace hW := hW.ext ho43
    replace hb8 := hb8.ext ho43
    refine st (mvT rfl) ?_
    refine st (y_ext rfl rfl) ?_
    refine st (y_ext rfl rfl) ?_
    refine sd (d_allocA zer26 ?_)
    intro b11 w48 hbb11 hs50 ho49 hb11
    have hz51 := ho49.size
    replace hL0 := hL0.ext ho49
    replace hL1 := hL1.ext ho49
    replace hE := hE.step ho49 (.inl (Nat.le_refl _))
    replace hN := hN.ext ho49
    replace hb7 := hb7.ext ho49
    replace hQ := hQ.ext ho49
    replace hW := hW.ext ho49
    replace hb8 := hb8.ext ho49
    replace hM := hM.ext ho49
    refine sd0 (d_stN hb11 rfl rfl sz26 rfl rfl ?_)
    intro w52 hs54 ho53 hb11'
    clear hb11; have hb11 := hb11'; clear hb11'
    have hz55 := ho53.size
    replace hL0 := hL0.out ho53 (by first | omega | (simp only [blk_some, hi1_some] at *; omega))
    replace hL1 := hL1.out ho53 (by first | omega | (simp only [blk_some, hi1_some] at *; omega))
    replace hE := hE.step ho53 (by first | omega | (simp only [blk_some, hi1_some] at *; omega))
    replace hN := hN.out ho53 (by first | omega | (simp only [blk_some, hi1_some] at *; omega))
    replace hb7 := hb7.out ho53 (by first | omega | (simp only [blk_some, hi1_some] at *; omega))
    replace hQ := hQ.out ho53 (by first | omega | (simp only [blk_some, hi1_some] at *; omega))
    replace hW := hW.out ho53 (by first | omega | (simp only [blk_some, hi1_some] at *; omega))
    replace hb8 := hb8.out ho53 (by first | omega | (simp only [blk_some, hi1_some] at *; omega))
    replace hM := hM.out ho53 (by first | omega | (simp only [blk_some, hi1_some] at *; omega))
    refine st (asI rfl) ?_
    refine rg_end ?_
    refine n_then ?_
    refine wp_seq ?_
    refine rg ?_
    refine st (mvI rfl) ?_
    refine st (y_fld fld46_0 rfl) ?_
    refine st (y_lb hb8 na22 rfl rfl) ?_
    refine st (y_len Try.underlying22 rfl) ?_
    refine sc cl20 (keep_Pick_ok _ _ _ (by omega) (by omega)) rfl ?_
    rintro v60 w56 ⟨rfl, ho57⟩
    have hpk := pick_rng pk ((cfS N 1048576).length : Int) (by omega)
    obtain ⟨j, hj⟩ : ∃ j : Nat, pick pk ((cfS N 1048576).length : Int) = (j : Int) := Int.eq_ofNat_of_zero_le hpk.1
    rw [hj] at hpk ⊢
    have hjS : j < (cfS N 1048576).length := by omega
    have hfw := hlst.wit j hjS
    have hz61 := ho57.size
    replace hL0 := hL0.ext ho57
    replace hL1 := hL1.ext ho57
    replace hE := hE.step ho57 (.inl (Nat.le_refl _))
    replace hN := hN.ext ho57
    replace hb7 := hb7.ext ho57
    replace hQ := hQ.ext ho57
    replace hW := hW.ext ho57
    replace hb8 := hb8.ext ho57
    replace hM := hM.ext ho57
    replace hb11 := hb11.ext ho57
    refine st (asI rfl) ?_
    refine rg_end ?_
    refine n_then ?_
    refine wp_seq ?_
    have hwl : (wo (cfS N 1048576) j).length ≤ (cfS N 1048576).length := wo_len _ _
    have haw := asc_wo (cfS N 1048576) (-1) j hlst.asc
    refine rgP 11 (fun w_ => Out 0 0 w56 w_) (fun i => Nat.beq i 4 || Nat.beq i 5 || Nat.beq i 9 || Nat.beq i 10) (.step 0 (.step 1 (.step 2 (.step 3 (.fork 4 (.fork 5 (.step 6 (.step 7 (.step 8 (.step 9 (.step 10 (.done)))))) (.fork 9 (.step 5 (.step 6 (.step 7 (.step 8 (.step 10 (.done)))))) (.last))) (.fork 9 (.step 4 (.step 5 (.step 6 (.step 7 (.step 8 (.step 10 (.done))))))) (.last))))))) mixed (by kernel_rfl) ?_
    intro w62 ho63 hs64
    refine ⟨ho63.wide (.inl (Nat.le_refl _)), ?_⟩
    have hx65 := ho63.wide (a' := 0) (b' := 0) (.inl (Nat.le_refl _))
    refine p_step rfl ?_
    refine tn rfl (fun _ hG => y_lbN (hb7.out hG (by first | omega | (simp only [blk_some, hi1_some] at *; omega))) agg26 rfl) ?_
    refine t_end ?_
    refine p_step rfl ?_
    refine tn rfl (fun _ hG => y_fld fld46_0 rfl) ?_
    refine t_end ?_
    refine p_step rfl ?_
    refine tn rfl (fun _ hG => y_lb (hb8.out hG (by first | omega | (simp only [blk_some, hi1_some] at *; omega))) na22 rfl rfl) ?_
    refine t_end ?_
    refine p_step rfl ?_
    refine tn rfl (fun _ hG => mvI rfl) ?_
    refine t_end ?_
    refine p_fork ?_ ?_
    ·
      refine p_step rfl ?_
      refine tc rfl cl24 (ref17_Without_ok (cfS N 1048576) _ _ _ _ j _ (hQ.out hx65 (by first | omega | (simp only [blk_some, hi1_some] at *; omega))) hcq (by omega) hjS) rfl ?_
      rintro v70 w66 ⟨ax, cx, rfl, hcx, hX, ho67⟩
      have hXr := hX.rng
      have hx71 := hx65.step ho67 (.inl (Nat.le_refl _))
      have hz72 := ho67.size
      refine ⟨hx71, ?_⟩
      refine t_end ?_
      refine p_fork ?_ ?_
      ·
        refine p_step rfl ?_
        refine tc rfl cl23 (ref17_Subset_ok N A _ _ (wo (cfS N 1048576) j) _ _ _ _ _ (hN.out hx71 (by first | omega | (simp only [blk_some, hi1_some] at *; omega))) (Ow.sl hX) (by omega)) rfl ?_
        rintro v77 w73 ⟨A3, rfl, hM3, ho74⟩
        obtain ⟨q3, q4⟩ := subE0 (netOk_iff.2 hok) haw
        rw [q4] at hM3
        rw [q3, q4]
        have hx78 := hx71.step ho74 (.inl (Nat.le_refl _))
        have hz79 := ho74.size
        replace hX := hX.ext ho74
        refine ⟨hx78, ?_⟩
        refine t_end ?_
        refine p_step rfl ?_
        refine tn rfl (fun _ hG => mvT rfl) ?_
        refine t_end ?_
        refine p_step rfl ?_
        refine tn rfl (fun _ hG => y_ext rfl rfl) ?_
        refine t_end ?_
        refine p_step rfl ?_
        refine tn rfl (fun _ hG => y_ext rfl rfl) ?_
        refine t_end ?_
        refine p_step rfl ?_
        refine td rfl (d_allocA zer26 ?_)
        intro b13 w80 hbb13 hs82 ho81 hb13
        have hx83 := hx78.step ho81 (.inl (Nat.le_refl _))
        have hz84 := ho81.size
        replace hM3 := hM3.ext ho81
        replace hX := hX.ext ho81
        refine ⟨hx83, ?_⟩
        refine t_end ?_
        refine p_step rfl ?_
        refine td0 rfl (d_stN hb13 rfl rfl sz26 rfl rfl ?_)
        intro w85 hs87 ho86 hb13'
        clear hb13; have hb13 := hb13'; clear hb13'
        have hx88 : Out 0 0 w56 w85 := hx83.step ho86 (by first | omega | (simp only [blk_some, hi1_some] at *; omega))
        have hz89 := ho86.size
        replace hM3 := hM3.out ho86 (by first | omega | (simp only [blk_some, hi1_some] at *; omega))
        replace hX := hX.out ho86 (by first | omega | (simp only [blk_some, hi1_some] at *; omega))
        refine ⟨hx88, ?_⟩
        refine t_end ?_
        refine p_done ?_
        have hz90 := hx88.size
        replace hL0 := hL0.out hx88 (by first | omega | (simp only [blk_some, hi1_some] at *; omega))
        replace hL1 := hL1.out hx88 (by first | omega | (simp only [blk_some, hi1_some] at *; omega))
        replace hE := hE.step hx88 (by first | omega | (simp only [blk_some, hi1_some] at *; omega))
        replace hN := hN.out hx88 (by first | omega | (simp only [blk_some, hi1_some] at *; omega))
        replace hb7 := hb7.out hx88 (by first | omega | (simp only [blk_some, hi1_some] at *; omega))
        replace hQ := hQ.out hx88 (by first | omega | (simp only [blk_some, hi1_some] at *; omega))
        replace hW := hW.out hx88 (by first | omega | (simp only [blk_some, hi1_some] at *; omega))
        replace hb8 := hb8.out hx88 (by first | omega | (simp only [blk_some, hi1_some] at *; omega))
        replace hM := hM.out hx88 (by first | omega | (simp only [blk_some, hi1_some] at *; omega))
        replace hb11 := hb11.out hx88 (by first | omega | (simp only [blk_some, hi1_some] at *; omega))
        refine st (asI rfl) ?_
        refine rg_end ?_
        refine n_then ?_
        refine wp_seq ?_
        have hrow := hW.row (el rows (j : Int)) (el_mem (by omega) (by omega))
        have hwe : (el rows (j : Int)).l = el (cfW N 1048576) (j : Int) := by rw [← hrw]; exact (elMap (by omega) (by omega)).symm
        rw [← hwe] at hfw
        refine rgD 23 (fun w_ => Ext w85 w_) (fun i => Nat.beq i 0 || Nat.beq i 5 || Nat.beq i 6 || Nat.beq i 16 || Nat.beq i 22) mixed (by kernel_rfl) ?_
        intro w91 ho92 hs93
        refine ⟨ho92, ?_⟩
        have hx94 := ho92
        refine tc rfl cl16 (law18_awake_ok _) rfl ?_
        rintro v99 w95 ⟨rfl, ho96⟩
        have hx100 := hx94.step ho96 (.inl (Nat.le_refl _))
        have hz101 := ho96.size
        refine ⟨hx100, ?_⟩
        refine tn rfl (fun _ hG => mvB rfl) ?_
        refine tng rfl rfl rfl rfl (fun _ hG => y_lbN (hb11.ext hG) agg26 rfl) ?_
        refine tng rfl rfl rfl rfl (fun _ hG => y_lbN (hb7.ext hG) agg26 rfl) ?_
        refine tng rfl rfl rfl rfl (fun _ hG => mvS rfl) ?_
        refine tcg rfl rfl rfl rfl cl15 (keep_Times_ok N A _ _ _ _ _ _ _ _ (hN.ext hx100) (hL1.ext hx100) hl1 (by omega) (by omega)) rfl ?_
        rintro v106 w102 ⟨a1, c1, x1, rfl, hT1, hxl1, hxr1, ho103⟩
        have hx107 := hx100.step ho103 (.inl (Nat.le_refl _))
        have hz108 := ho103.size
        refine ⟨hx107, ?_⟩
        refine tcg rfl rfl rfl rfl cl17 (ref11_Feasible_ok (subN N (cfS N 1048576)) A2 _ _ x1 _ _ _ _ _ (hM.ext hx107) hT1) rfl ?_
        rintro v113 w109 ⟨rfl, ho110⟩
        have hx114 := hx107.step ho110 (.inl (Nat.le_refl _))
        have hz115 := ho110.size
        replace hT1 := hT1.ext ho110
        refine ⟨hx114, ?_⟩
        refine tng rfl rfl rfl rfl (fun _ hG => y_not rfl) ?_
        refine tn rfl (fun _ hG => y_pickT rfl rfl (v := .bool _) rfl) ?_
        refine tn rfl (fun _ hG => mvB rfl) ?_
        refine tng rfl rfl rfl (congrArg Bool.not (hlst.inf _)) (fun _ hG => y_lbN (hb13.ext hG) agg26 rfl) ?_
        refine tng rfl rfl rfl (congrArg Bool.not (hlst.inf _)) (fun _ hG => y_fld fld46_1 rfl) ?_
        refine tng rfl rfl rfl (congrArg Bool.not (hlst.inf _)) (fun _ hG => y_lb (hb8.ext hG) na44 rfl rfl) ?_
        refine tng rfl rfl rfl (congrArg Bool.not (hlst.inf _)) (fun _ hG => mvI rfl) ?_
        refine tng rfl rfl rfl (congrArg Bool.not (hlst.inf _)) (fun _ hG => y_ix (hW.tb.ext hG) sl44 rfl (rfl) rfl (by omega) (by omega)) ?_
        refine tng rfl rfl rfl (congrArg Bool.not (hlst.inf _)) (fun _ hG => y_le (hW.tb.ext hG) na22 rfl (by omega) (by omega) rfl) ?_
        refine tcg rfl rfl rfl (congrArg Bool.not (hlst.inf _)) cl17 (ref11_Feasible_ok (subN N (wo (cfS N 1048576) j)) A3 _ _ (el rows (j : Int)).l _ _ _ _ _ (hM3.ext hx114) (hrow.ext hx114)) rfl ?_
        rintro v120 w116 ⟨rfl, ho117⟩
        have hx121 := hx114.step ho117 (.inl (Nat.le_refl _))
        have hz122 := ho117.size
        replace hT1 := hT1.ext ho117
        refine ⟨hx121, ?_⟩
        refine tn rfl (fun _ hG => y_pickT rfl (congrArg Bool.not (hlst.inf _)) (v := .bool _) rfl) ?_
        refine tn rfl (fun _ hG => mvB rfl) ?_
        refine tng rfl rfl rfl hfw (fun _ hG => y_lbN (hb7.ext hG) agg26 rfl) ?_
        refine tng rfl rfl rfl hfw (fun _ hG => y_lbN (hb7.ext hG) agg26 rfl) ?_
        refine tng rfl rfl rfl hfw (fun _ hG => mvS rfl) ?_
        refine tcg rfl rfl rfl hfw cl15 (keep_Times_ok N A _ _ _ _ _ _ _ _ (hN.ext hx121) (hL1.ext hx121) hl1 (by omega) (by omega)) rfl ?_
        rintro v127 w123 ⟨a2, c2, x2, rfl, hT2, hxl2, hxr2, ho124⟩
        have hx128 := hx121.step ho124 (.inl (Nat.le_refl _))
        have hz129 := ho124.size
        replace hT1 := hT1.ext ho124
        refine ⟨hx128, ?_⟩
        refine t_end ?_
        have hz130 := hx128.size
        replace hL0 := hL0.ext hx128
        replace hL1 := hL1.ext hx128
        replace hE := hE.step hx128 (.inl (Nat.le_refl _))
        replace hN := hN.ext hx128
        replace hb7 := hb7.ext hx128
        replace hQ := hQ.ext hx128
        replace hW := hW.ext hx128
        replace hb8 := hb8.ext hx128
        replace hM := hM.ext hx128
        replace hb11 := hb11.ext hx128
        replace hX := hX.ext hx128
        replace hM3 := hM3.ext hx128
        replace hb13 := hb13.ext hx128
        replace hrow := hrow.ext hx128
        refine scg rfl rfl hfw cl17 (ref11_Feasible_ok N A _ _ x2 _ _ _ _ _ hN hT2) rfl ?_
        rintro v135 w131 ⟨rfl, ho132⟩
        have hz136 := ho132.size
        replace hL0 := hL0.ext ho132
        replace hL1 := hL1.ext ho132
        replace hE := hE.step ho132 (.inl (Nat.le_refl _))
        replace hN := hN.ext ho132
        replace hb7 := hb7.ext ho132
        replace hQ := hQ.ext ho132
        replace hW := hW.ext ho132
        replace hb8 := hb8.ext ho132
        replace hM := hM.ext ho132
        replace hb11 := hb11.ext ho132
        replace hX := hX.ext ho132
        replace hM3 := hM3.ext ho132
        replace hb13 := hb13.ext ho132
        replace hrow := hrow.ext ho132
        replace hT1 := hT1.ext ho132
        replace hT2 := hT2.ext ho132
        refine stg rfl rfl hfw (y_not rfl) ?_
        refine st (y_pickT rfl hfw (v := .bool _) rfl) ?_
        refine st (asB rfl) ?_
        refine rg_end ?_
        refine n_then ?_
        refine wp_ret ?_
        refine ret1 (v := (.bool _)) Try.results5 rfl ?_
        exact ⟨congrArg Value.bool (congrArg Bool.not (hlst.non _)), hE⟩
      refine p_fork ?_ ?_
      ·
        refine p_step rfl ?_
        refine td rfl (d_allocA zer26 ?_)
        intro b13 w137 hbb13 hs139 ho138 hb13
        have hx140 := hx71.step ho138 (.inl (Nat.le_refl _))
        have hz141 := ho138.size
        replace hX := hX.ext ho138
        refine ⟨hx140, ?_⟩
        refine t_end ?_
        refine p_step rfl ?_
        refine tc rfl cl23 (ref17_Subset_ok N A _ _ (wo (cfS N 1048576) j) _ _ _ _ _ (hN.out hx140 (by first | omega | (simp only [blk_some, hi1_some] at *; omega))) (Ow.sl hX) (by omega)) rfl ?_
        rintro v146 w142 ⟨A3, rfl, hM3, ho143⟩
        obtain ⟨q3, q4⟩ := subE0 (netOk_iff.2 hok) haw
        rw [q4] at hM3
        rw [q3, q4]
        have hx147 := hx140.step ho143 (.inl (Nat.le_refl _))
        have hz148 := ho143.size
        replace hX := hX.ext ho143
        replace hb13 := hb13.ext ho143
        refine ⟨hx147, ?_⟩
        refine t_end ?_
        refine p_step rfl ?_
        refine tn rfl (fun _ hG => mvT rfl) ?_
        refine t_end ?_
        refine p_step rfl ?_
        refine tn rfl (fun _ hG => y_ext rfl rfl) ?_
        refine t_end ?_
        refine p_step rfl ?_
        refine tn rfl (fun _ hG => y_ext rfl rfl) ?_
        refine t_end ?_
        refine p_step rfl ?_
        refine td0 rfl (d_stN hb13 rfl rfl sz26 rfl rfl ?_)
        intro w149 hs151 ho150 hb13'
        clear hb13; have hb13 := hb13'; clear hb13'
        have hx152 : Out 0 0 w56 w149 := hx147.step ho150 (by first | omega | (simp only [blk_some, hi1_some] at *; omega))
        have hz153 := ho150.size
        replace hM3 := hM3.out ho150 (by first | omega | (simp only [blk_some, hi1_some] at *; omega))
        replace hX := hX.out ho150 (by first | omega | (simp only [blk_some, hi1_some] at *; omega))
        refine ⟨hx152, ?_⟩
        refine t_end ?_
        refine p_done ?_
        have hz154 := hx152.size
        replace hL0 := hL0.out hx152 (by first | omega | (simp only [blk_some, hi1_some] at *; omega))
        replace hL1 := hL1.out hx152 (by first | omega | (simp only [blk_some, hi1_some] at *; omega))
        replace hE := hE.step hx152 (by first | omega | (simp only [blk_some, hi1_some] at *; omega))
        replace hN := hN.out hx152 (by first | omega | (simp only [blk_some, hi1_some] at *; omega))
        replace hb7 := hb7.out hx152 (by first | omega | (simp only [blk_some, hi1_some] at *; omega))
        replace hQ := hQ.out hx152 (by first | omega | (simp only [blk_some, hi1_some] at *; omega))
        replace hW := hW.out hx152 (by first | omega | (simp only [blk_some, hi1_some] at *; omega))
        replace hb8 := hb8.out hx152 (by first | omega | (simp only [blk_some, hi1_some] at *; omega))
        replace hM := hM.out hx152 (by first | omega | (simp only [blk_some, hi1_some] at *; omega))
        replace hb11 := hb11.out hx152 (by first | omega | (simp only [blk_some, hi1_some] at *; omega))
        refine st (asI rfl) ?_
        refine rg_end ?_
        refine n_then ?_
        refine wp_seq ?_
        have hrow := hW.row (el rows (j : Int)) (el_mem (by omega) (by omega))
        have hwe : (el rows (j : Int)).l = el (cfW N 1048576) (j : Int) := by rw [← hrw]; exact (elMap (by omega) (by omega)).symm
        rw [← hwe] at hfw
        refine rgD 23 (fun w_ => Ext w149 w_) (fun i => Nat.beq i 0 || Nat.beq i 5 || Nat.beq i 6 || Nat.beq i 16 || Nat.beq i 22) mixed (by kernel_rfl) ?_
        intro w155 ho156 hs157
        refine ⟨ho156, ?_⟩
        have hx158 := ho156
        refine tc rfl cl16 (law18_awake_ok _) rfl ?_
        rintro v163 w159 ⟨rfl, ho160⟩
        have hx164 := hx158.step ho160 (.inl (Nat.le_refl _))
        have hz165 := ho160.size
        refine ⟨hx164, ?_⟩
        refine tn rfl (fun _ hG => mvB rfl) ?_
        refine tng rfl rfl rfl rfl (fun _ hG => y_lbN (hb11.ext hG) agg26 rfl) ?_
        refine tng rfl rfl rfl rfl (fun _ hG => y_lbN (hb7.ext hG) agg26 rfl) ?_
        refine tng rfl rfl rfl rfl (fun _ hG => mvS rfl) ?_
        refine tcg rfl rfl rfl rfl cl15 (keep_Times_ok N A _ _ _ _ _ _ _ _ (hN.ext hx164) (hL1.ext hx164) hl1 (by omega) (by omega)) rfl ?_
        rintro v170 w166 ⟨a1, c1, x1, rfl, hT1, hxl1, hxr1, ho167⟩
        have hx171 := hx164.step ho167 (.inl (Nat.le_refl _))
        have hz172 := ho167.size
        refine ⟨hx171, ?_⟩
        refine tcg rfl rfl rfl rfl cl17 (ref11_Feasible_ok (subN N (cfS N 1048576)) A2 _ _ x1 _ _ _ _ _ (hM.ext hx171) hT1) rfl ?_
        rintro v177 w173 ⟨rfl, ho174⟩
        have hx178 := hx171.step ho174 (.inl (Nat.le_refl _))
        have hz179 := ho174.size
        replace hT1 := hT1.ext ho174
        refine ⟨hx178, ?_⟩
        refine tng rfl rfl rfl rfl (fun _ hG => y_not rfl) ?_
        refine tn rfl (fun _ hG => y_pickT rfl rfl (v := .bool _) rfl) ?_
        refine tn rfl (fun _ hG => mvB rfl) ?_
        refine tng rfl rfl rfl (congrArg Bool.not (hlst.inf _)) (fun _ hG => y_lbN (hb13.ext hG) agg26 rfl) ?_
        refine tng rfl rfl rfl (congrArg Bool.not (hlst.inf _)) (fun _ hG => y_fld fld46_1 rfl) ?_
        refine tng rfl rfl rfl (congrArg Bool.not (hlst.inf _)) (fun _ hG => y_lb (hb8.ext hG) na44 rfl rfl) ?_
        refine tng rfl rfl rfl (congrArg Bool.not (hlst.inf _)) (fun _ hG => mvI rfl) ?_
        refine tng rfl rfl rfl (congrArg Bool.not (hlst.inf _)) (fun _ hG => y_ix (hW.tb.ext hG) sl44 rfl (rfl) rfl (by omega) (by omega)) ?_
        refine tng rfl rfl rfl (congrArg Bool.not (hlst.inf _)) (fun _ hG => y_le (hW.tb.ext hG) na22 rfl (by omega) (by omega) rfl) ?_
        refine tcg rfl rfl rfl (congrArg Bool.not (hlst.inf _)) cl17 (ref11_Feasible_ok (subN N (wo (cfS N 1048576) j)) A3 _ _ (el rows (j : Int)).l _ _ _ _ _ (hM3.ext hx178) (hrow.ext hx178)) rfl ?_
        rintro v184 w180 ⟨rfl, ho181⟩
        have hx185 := hx178.step ho181 (.inl (Nat.le_refl _))
        have hz186 := ho181.size
        replace hT1 := hT1.ext ho181
        refine ⟨hx185, ?_⟩
        refine tn rfl (fun _ hG => y_pickT rfl (congrArg Bool.not (hlst.inf _)) (v := .bool _) rfl) ?_
        refine tn rfl (fun _ hG => mvB rfl) ?_
        refine tng rfl rfl rfl hfw (fun _ hG => y_lbN (hb7.ext hG) agg26 rfl) ?_
        refine tng rfl rfl rfl hfw (fun _ hG => y_lbN (hb7.ext hG) agg26 rfl) ?_
        refine tng rfl rfl rfl hfw (fun _ hG => mvS rfl) ?_
        refine tcg rfl rfl rfl hfw cl15 (keep_Times_ok N A _ _ _ _ _ _ _ _ (hN.ext hx185) (hL1.ext hx185) hl1 (by omega) (by omega)) rfl ?_
        rintro v191 w187 ⟨a2, c2, x2, rfl, hT2, hxl2, hxr2, ho188⟩
        have hx192 := hx185.step ho188 (.inl (Nat.le_refl _))
        have hz193 := ho188.size
        replace hT1 := hT1.ext ho188
        refine ⟨hx192, ?_⟩
        refine t_end ?_
        have hz194 := hx192.size
        replace hL0 := hL0.ext hx192
        replace hL1 := hL1.ext hx192
        replace hE := hE.step hx192 (.inl (Nat.le_refl _))
        replace hN := hN.ext hx192
        replace hb7 := hb7.ext hx192
        replace hQ := hQ.ext hx192
        replace hW := hW.ext hx192
        replace hb8 := hb8.ext hx192
        replace hM := hM.ext hx192
        replace hb11 := hb11.ext hx192
        replace hX := hX.ext hx192
        replace hb13 := hb13.ext hx192
        replace hM3 := hM3.ext hx192
        replace hrow := hrow.ext hx192
        refine scg rfl rfl hfw cl17 (ref11_Feasible_ok N A _ _ x2 _ _ _ _ _ hN hT2) rfl ?_
        rintro v199 w195 ⟨rfl, ho196⟩
        have hz200 := ho196.size
        replace hL0 := hL0.ext ho196
        replace hL1 := hL1.ext ho196
        replace hE := hE.step ho196 (.inl (Nat.le_refl _))
        replace hN := hN.ext ho196
        replace hb7 := hb7.ext ho196
        replace hQ := hQ.ext ho196
        replace hW := hW.ext ho196
        replace hb8 := hb8.ext ho196
        replace hM := hM.ext ho196
        replace hb11 := hb11.ext ho196
        replace hX := hX.ext ho196
        replace hb13 := hb13.ext ho196
        replace hM3 := hM3.ext ho196
        replace hrow := hrow.ext ho196
        replace hT1 := hT1.ext ho196
        replace hT2 := hT2.ext ho196
        refine stg rfl rfl hfw (y_not rfl) ?_
        refine st (y_pickT rfl hfw (v := .bool _) rfl) ?_
        refine st (asB rfl) ?_
        refine rg_end ?_
        refine n_then ?_
        refine wp_ret ?_
        refine ret1 (v := (.bool _)) Try.results5 rfl ?_
        exact ⟨congrArg Value.bool (congrArg Bool.not (hlst.non _)), hE⟩
      exact p_last
    refine p_fork ?_ ?_
    ·
      refine p_step rfl ?_
      refine td rfl (d_allocA zer26 ?_)
      intro b13 w201 hbb13 hs203 ho202 hb13
      have hx204 := hx65.step ho202 (.inl (Nat.le_refl _))
      have hz205 := ho202.size
      refine ⟨hx204, ?_⟩
      refine t_end ?_
      refine p_step rfl ?_
      refine tc rfl cl24 (ref17_Without_ok (cfS N 1048576) _ _ _ _ j _ (hQ.out hx204 (by first | omega | (simp only [blk_some, hi1_some] at *; omega))) hcq (by omega) hjS) rfl ?_
      rintro v210 w206 ⟨ax, cx, rfl, hcx, hX, ho207⟩
      have hXr := hX.rng
      have hx211 := hx204.step ho207 (.inl (Nat.le_refl _))
      have hz212 := ho207.size
      replace hb13 := hb13.ext ho207
      refine ⟨hx211, ?_⟩
      refine t_end ?_
      refine p_step rfl ?_
      refine tc rfl cl23 (ref17_Subset_ok N A _ _ (wo (cfS N 1048576) j) _ _ _ _ _ (hN.out hx211 (by first | omega | (simp only [blk_some, hi1_some] at *; omega))) (Ow.sl hX) (by omega)) rfl ?_
      rintro v217 w213 ⟨A3, rfl, hM3, ho214⟩
      obtain ⟨q3, q4⟩ := subE0 (netOk_iff.2 hok) haw
      rw [q4] at hM3
      rw [q3, q4]
      have hx218 := hx211.step ho214 (.inl (Nat.le_refl _))
      have hz219 := ho214.size
      replace hX := hX.ext ho214
      replace hb13 := hb13.ext ho214
      refine ⟨hx218, ?_⟩
      refine t_end ?_
      refine p_step rfl ?_
      refine tn rfl (fun _ hG => mvT rfl) ?_
      refine t_end ?_
      refine p_step rfl ?_
      refine tn rfl (fun _ hG => y_ext rfl rfl) ?_
      refine t_end ?_
      refine p_step rfl ?_
      refine tn rfl (fun _ hG => y_ext rfl rfl) ?_
      refine t_end ?_
      refine p_step rfl ?_
      refine td0 rfl (d_stN hb13 rfl rfl sz26 rfl rfl ?_)
      intro w220 hs222 ho221 hb13'
      clear hb13; have hb13 := hb13'; clear hb13'
      have hx223 : Out 0 0 w56 w220 := hx218.step ho221 (by first | omega | (simp only [blk_some, hi1_some] at *; omega))
      have hz224 := ho221.size
      replace hM3 := hM3.out ho221 (by first | omega | (simp only [blk_some, hi1_some] at *; omega))
      replace hX := hX.out ho221 (by first | omega | (simp only [blk_some, hi1_some] at *; omega))
      refine ⟨hx223, ?_⟩
      refine t_end ?_
      refine p_done ?_
      have hz225 := hx223.size
      replace hL0 := hL0.out hx223 (by first | omega | (simp only [blk_some, hi1_some] at *; omega))
      replace hL1 := hL1.out hx223 (by first | omega | (simp only [blk_some, hi1_some] at *; omega))
      replace hE := hE.step hx223 (by first | omega | (simp only [blk_some, hi1_some] at *; omega))
      replace hN := hN.out hx223 (by first | omega | (simp only [blk_some, hi1_some] at *; omega))
      replace hb7 := hb7.out hx223 (by first | omega | (simp only [blk_some, hi1_some] at *; omega))
      replace hQ := hQ.out hx223 (by first | omega | (simp only [blk_some, hi1_some] at *; omega))
      replace hW := hW.out hx223 (by first | omega | (simp only [blk_some, hi1_some] at *; omega))
      replace hb8 := hb8.out hx223 (by first | omega | (simp only [blk_some, hi1_some] at *; omega))
      replace hM := hM.out hx223 (by first | omega | (simp only [blk_some, hi1_some] at *; omega))
      replace hb11 := hb11.out hx223 (by first | omega | (simp only [blk_some, hi1_some] at *; omega))
      refine st (asI rfl) ?_
      refine rg_end ?_
      refine n_then ?_
      refine wp_seq ?_
      have hrow := hW.row (el rows (j : Int)) (el_mem (by omega) (by omega))
      have hwe : (el rows (j : Int)).l = el (cfW N 1048576) (j : Int) := by rw [← hrw]; exact (elMap (by omega) (by omega)).symm
      rw [← hwe] at hfw
      refine rgD 23 (fun w_ => Ext w220 w_) (fun i => Nat.beq i 0 || Nat.beq i 5 || Nat.beq i 6 || Nat.beq i 16 || Nat.beq i 22) mixed (by kernel_rfl) ?_
      intro w226 ho227 hs228
      refine ⟨ho227, ?_⟩
      have hx229 := ho227
      refine tc rfl cl16 (law18_awake_ok _) rfl ?_
      rintro v234 w230 ⟨rfl, ho231⟩
      have hx235 := hx229.step ho231 (.inl (Nat.le_refl _))
      have hz236 := ho231.size
      refine ⟨hx235, ?_⟩
      refine tn rfl (fun _ hG => mvB rfl) ?_
      refine tng rfl rfl rfl rfl (fun _ hG => y_lbN (hb11.ext hG) agg26 rfl) ?_
      refine tng rfl rfl rfl rfl (fun _ hG => y_lbN (hb7.ext hG) agg26 rfl) ?_
      refine tng rfl rfl rfl rfl (fun _ hG => mvS rfl) ?_
      refine tcg rfl rfl rfl rfl cl15 (keep_Times_ok N A _ _ _ _ _ _ _ _ (hN.ext hx235) (hL1.ext hx235) hl1 (by omega) (by omega)) rfl ?_
      rintro v241 w237 ⟨a1, c1, x1, rfl, hT1, hxl1, hxr1, ho238⟩
      have hx242 := hx235.step ho238 (.inl (Nat.le_refl _))
      have hz243 := ho238.size
      refine ⟨hx242, ?_⟩
      refine tcg rfl rfl rfl rfl cl17 (ref11_Feasible_ok (subN N (cfS N 1048576)) A2 _ _ x1 _ _ _ _ _ (hM.ext hx242) hT1) rfl ?_
      rintro v248 w244 ⟨rfl, ho245⟩
      have hx249 := hx242.step ho245 (.inl (Nat.le_refl _))
      have hz250 := ho245.size
      replace hT1 := hT1.ext ho245
      refine ⟨hx249, ?_⟩
      refine tng rfl rfl rfl rfl (fun _ hG => y_not rfl) ?_
      refine tn rfl (fun _ hG => y_pickT rfl rfl (v := .bool _) rfl) ?_
      refine tn rfl (fun _ hG => mvB rfl) ?_
      refine tng rfl rfl rfl (congrArg Bool.not (hlst.inf _)) (fun _ hG => y_lbN (hb13.ext hG) agg26 rfl) ?_
      refine tng rfl rfl rfl (congrArg Bool.not (hlst.inf _)) (fun _ hG => y_fld fld46_1 rfl) ?_
      refine tng rfl rfl rfl (congrArg Bool.not (hlst.inf _)) (fun _ hG => y_lb (hb8.ext hG) na44 rfl rfl) ?_
      refine tng rfl rfl rfl (congrArg Bool.not (hlst.inf _)) (fun _ hG => mvI rfl) ?_
      refine tng rfl rfl rfl (congrArg Bool.not (hlst.inf _)) (fun _ hG => y_ix (hW.tb.ext hG) sl44 rfl (rfl) rfl (by omega) (by omega)) ?_
      refine tng rfl rfl rfl (congrArg Bool.not (hlst.inf _)) (fun _ hG => y_le (hW.tb.ext hG) na22 rfl (by omega) (by omega) rfl) ?_
      refine tcg rfl rfl rfl (congrArg Bool.not (hlst.inf _)) cl17 (ref11_Feasible_ok (subN N (wo (cfS N 1048576) j)) A3 _ _ (el rows (j : Int)).l _ _ _ _ _ (hM3.ext hx249) (hrow.ext hx249)) rfl ?_
      rintro v255 w251 ⟨rfl, ho252⟩
      have hx256 := hx249.step ho252 (.inl (Nat.le_refl _))
      have hz257 := ho252.size
      replace hT1 := hT1.ext ho252
      refine ⟨hx256, ?_⟩
      refine tn rfl (fun _ hG => y_pickT rfl (congrArg Bool.not (hlst.inf _)) (v := .bool _) rfl) ?_
      refine tn rfl (fun _ hG => mvB rfl) ?_
      refine tng rfl rfl rfl hfw (fun _ hG => y_lbN (hb7.ext hG) agg26 rfl) ?_
      refine tng rfl rfl rfl hfw (fun _ hG => y_lbN (hb7.ext hG) agg26 rfl) ?_
      refine tng rfl rfl rfl hfw (fun _ hG => mvS rfl) ?_
      refine tcg rfl rfl rfl hfw cl15 (keep_Times_ok N A _ _ _ _ _ _ _ _ (hN.ext hx256) (hL1.ext hx256) hl1 (by omega) (by omega)) rfl ?_
      rintro v262 w258 ⟨a2, c2, x2, rfl, hT2, hxl2, hxr2, ho259⟩
      have hx263 := hx256.step ho259 (.inl (Nat.le_refl _))
      have hz264 := ho259.size
      replace hT1 := hT1.ext ho259
      refine ⟨hx263, ?_⟩
      refine t_end ?_
      have hz265 := hx263.size
      replace hL0 := hL0.ext hx263
      replace hL1 := hL1.ext hx263
      replace hE := hE.step hx263 (.inl (Nat.le_refl _))
      replace hN := hN.ext hx263
      replace hb7 := hb7.ext hx263
      replace hQ := hQ.ext hx263
      replace hW := hW.ext hx263
      replace hb8 := hb8.ext hx263
      replace hM := hM.ext hx263
      replace hb11 := hb11.ext hx263
      replace hb13 := hb13.ext hx263
      replace hX := hX.ext hx263
      replace hM3 := hM3.ext hx263
      replace hrow := hrow.ext hx263
      refine scg rfl rfl hfw cl17 (ref11_Feasible_ok N A _ _ x2 _ _ _ _ _ hN hT2) rfl ?_
      rintro v270 w266 ⟨rfl, ho267⟩
      have hz271 := ho267.size
      replace hL0 := hL0.ext ho267
      replace hL1 := hL1.ext ho267
      replace hE := hE.step ho267 (.inl (Nat.le_refl _))
      replace hN := hN.ext ho267
      replace hb7 := hb7.ext ho267
      replace hQ := hQ.ext ho267
      replace hW := hW.ext ho267
      replace hb8 := hb8.ext ho267
      replace hM := hM.ext ho267
      replace hb11 := hb11.ext ho267
      replace hb13 := hb13.ext ho267
      replace hX := hX.ext ho267
      replace hM3 := hM3.ext ho267
      replace hrow := hrow.ext ho267
      replace hT1 := hT1.ext ho267
      replace hT2 := hT2.ext ho267
      refine stg rfl rfl hfw (y_not rfl) ?_
      refine st (y_pickT rfl hfw (v := .bool _) rfl) ?_
      refine st (asB rfl) ?_
      refine rg_end ?_
      refine n_then ?_
      refine wp_ret ?_
      refine ret1 (v := (.bool _)) Try.results5 rfl ?_
      exact ⟨congrArg Value.bool (congrArg Bool.not (hlst.non _)), hE⟩
    exact p_last
end Go.Proofs.Ytclligkngjhihaa
