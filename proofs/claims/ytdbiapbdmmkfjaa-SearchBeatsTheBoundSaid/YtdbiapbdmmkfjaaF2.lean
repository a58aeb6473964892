/-
  Walks of the functions, printed by a program out of the code and the loops' relations.
-/
import Derived.Test.YtdbiapbdmmkfjaaWkD
import Derived.Test.YtdbiapbdmmkfjaaProg
import Derived.KernelRfl
import Derived.Test.YtdbiapbdmmkfjaaF1
import Derived.Test.YtdbiapbdmmkfjaaSy
namespace Go.Proofs.Ytdbiapbdmmkfjaa
open Go.Wk Go.RowKit
set_option linter.unusedVariables false
set_option linter.unusedSimpArgs false
set_option maxHeartbeats 1000000 in
set_option maxRecDepth 100000 in
theorem law17_SearchBudget_ok (a0 : Option Addr) (c0 : Nat) (l0 : List Int) (w : World) (hL0 : Ints 0 w.heap.size w a0 l0) (hl0 : (l0.length : Int) ≤ 9223372036854775807) : Cal Try.prog 9 [.slice a0 l0.length c0] w (fun v w' => v = .bool true ∧ Ext w w') := by
  have hE : Out 0 0 w w := Out.refl _ _ w
  refine enter Try.func9 rfl Try.ntmps9 rfl ?_
  refine wp_seq ?_
  refine rg ?_
  refine st (asB rfl) ?_
  refine rg_end ?_
  refine n_then ?_
  refine wp_seq ?_
  refine rg ?_
  refine st (mvS rfl) ?_
  refine sc cl23 (keep_Slack_ok _ _ _ _ _ _ hL0 hl0) rfl ?_
  rintro v5 w1 ⟨N, A, rfl, hsm, hN, ho2⟩
  have bF := small_bud hsm false
  have bT := small_bud hsm true
  have hle := small_le hsm
  have hsame := (small_same hsm).1
  have hF1 := bF.one
  have hF2 := bF.top
  have hT1 := bT.one
  have hT2 := bT.top
  have hz6 := ho2.size
  replace hL0 := hL0.ext ho2
  replace hE := hE.step ho2 (.inl (Nat.le_refl _))
  refine sd (d_allocA zer26 ?_)
  intro b3 w7 hbb3 hs9 ho8 hb3
  have hz10 := ho8.size
  replace hL0 := hL0.ext ho8
  replace hE := hE.step ho8 (.inl (Nat.le_refl _))
  replace hN := hN.ext ho8
  refine sd0 (d_stN hb3 rfl rfl sz26 rfl rfl ?_)
  intro w11 hs13 ho12 hb3'
  clear hb3; have hb3 := hb3'; clear hb3'
  have hz14 := ho12.size
  replace hL0 := hL0.out ho12 (by first | omega | (simp only [blk_some, hi1_some] at *; omega))
  replace hE := hE.step ho12 (by first | omega | (simp only [blk_some, hi1_some] at *; omega))
  replace hN := hN.out ho12 (by first | omega | (simp only [blk_some, hi1_some] at *; omega))
  refine rg_end ?_
  refine n_then ?_
  refine wp_seq ?_
  refine rg ?_
  refine st (y_lbN hb3 agg26 rfl) ?_
  refine sc cl13 (search_Feasible_ok N A _ _ 1048576 _ hN) rfl ?_
  rintro v19 w15 ⟨at1, ct1, rfl, hT1, ho16⟩
  have hz20 := ho16.size
  replace hL0 := hL0.ext ho16
  replace hE := hE.step ho16 (.inl (Nat.le_refl _))
  replace hN := hN.ext ho16
  replace hb3 := hb3.ext ho16
  refine st (mvT rfl) ?_
  refine st (y_ext rfl rfl) ?_
  refine st (y_ext rfl rfl) ?_
  refine st (y_ext rfl rfl) ?_
  refine st (asS rfl) ?_
  refine st (asI rfl) ?_
  refine st (asI rfl) ?_
  refine rg_end ?_
  refine n_then ?_
  refine wp_seq ?_
  refine rg ?_
  refine st (y_lbN hb3 agg26 rfl) ?_
  refine sc cl18 (search_Solve_ok N A _ _ 1048576 _ hN) rfl ?_
  rintro v25 w21 ⟨at2, ct2, rfl, hT2, ho22⟩
  have hz26 := ho22.size
  replace hL0 := hL0.ext ho22
  replace hE := hE.step ho22 (.inl (Nat.le_refl _))
  replace hN := hN.ext ho22
  replace hb3 := hb3.ext ho22
  replace hT1 := hT1.ext ho22
  refine st (mvT rfl) ?_
  refine st (y_ext rfl rfl) ?_
  refine st (y_ext rfl rfl) ?_
  refine st (y_ext rfl rfl) ?_
  refine st (y_ext rfl rfl) ?_
  refine st (asS rfl) ?_
  refine st (asI rfl) ?_
  refine st (asI rfl) ?_
  refine st (asI rfl) ?_
  refine rg_end ?_
  refine n_then ?_
  refine wp_seq ?_
  refine wp_seq ?_
  refine rg ?_
  refine st (y_lbN hb3 agg26 rfl) ?_
  refine sc cl28 (ref17_Feasible_ok N A _ _ 1048576 _ hN) rfl ?_
  rintro v31 w27 ⟨at3, ct3, rfl, hT3, ho28⟩
  have hz32 := ho28.size
  replace hL0 := hL0.ext ho28
  replace hE := hE.step ho28 (.inl (Nat.le_refl _))
  replace hN := hN.ext ho28
  replace hb3 := hb3.ext ho28
  replace hT1 := hT1.ext ho28
  replace hT2 := hT2.ext ho28
  refine st (mvT rfl) ?_
  refine st (y_ext rfl rfl) ?_
  refine st (y_ext rfl rfl) ?_
  refine st (y_ext rfl rfl) ?_
  refine st (asS rfl) ?_
  refine st (asI rfl) ?_
  refine st (asI rfl) ?_
  refine rg_end ?_
  refine n_then ?_
  refine wp_seq ?_
  refine rg ?_
  refine st (mvI rfl) ?_
  refine st (mvI rfl) ?_
  refine st (y_neq rfl rfl) ?_
  refine st (mvB rfl) ?_
  refine stg rfl rfl (decide_eq_false (not_not_intro rfl)) (mvI rfl) ?_
  refine stg rfl rfl (decide_eq_false (not_not_intro rfl)) (mvI rfl) ?_
  refine stg rfl rfl (decide_eq_false (not_not_intro rfl)) (y_neq rfl rfl) ?_
  refine st (y_pickF rfl (decide_eq_false (not_not_intro rfl)) (v := .bool _) rfl) ?_
  refine st (mvB rfl) ?_
  refine stg rfl rfl (decide_eq_false (not_not_intro hsame)) (mvI rfl) ?_
  refine stg rfl rfl (decide_eq_false (not_not_intro hsame)) (y_lss rfl rfl) ?_
  refine st (y_pickF rfl (decide_eq_false (not_not_intro hsame)) (v := .bool _) rfl) ?_
  refine st (mvB rfl) ?_
  refine stg rfl rfl (decide_eq_false (by omega)) (mvI rfl) ?_
  refine stg rfl rfl (decide_eq_false (by omega)) (mvI rfl) ?_
  refine stg rfl rfl (decide_eq_false (by omega)) (y_lss rfl rfl) ?_
  refine st (y_pickF rfl (decide_eq_false (by omega)) (v := .bool _) rfl) ?_
  refine rg_end ?_
  refine n_then ?_
  refine cnd rfl (fun hc0 => absurd ((decide_eq_false (by omega)).symm.trans hc0) (by decide)) (fun hc0 => ?_)
  refine wp_skip ?_
  refine n_then ?_
  refine wp_seq ?_
  refine rg ?_
  refine st (y_lbN hb3 agg26 rfl) ?_
  refine st (mvI rfl) ?_
  refine sc cl13 (search_Feasible_ok N A _ _ (findU N false 1048576) _ hN) rfl ?_
  rintro v37 w33 ⟨at4, ct4, rfl, hT4, ho34⟩
  have hz38 := ho34.size
  replace hL0 := hL0.ext ho34
  replace hE := hE.step ho34 (.inl (Nat.le_refl _))
  replace hN := hN.ext ho34
  replace hb3 := hb3.ext ho34
  replace hT1 := hT1.ext ho34
  replace hT2 := hT2.ext ho34
  replace hT3 := hT3.ext ho34
  refine st (mvT rfl) ?_
  refine st (y_ext rfl rfl) ?_
  refine st (y_ext rfl rfl) ?_
  refine st (y_ext rfl rfl) ?_
  refine st (asS rfl) ?_
  refine st (asI rfl) ?_
  refine st (asI rfl) ?_
  refine rg_end ?_
  refine n_then ?_
  refine wp_seq ?_
  refine rg ?_
  refine st (y_lbN hb3 agg26 rfl) ?_
  refine st (mvI rfl) ?_
  refine sc cl18 (search_Solve_ok N A _ _ (findU N true 1048576) _ hN) rfl ?_
  rintro v43 w39 ⟨at5, ct5, rfl, hT5, ho40⟩
  have hz44 := ho40.size
  replace hL0 := hL0.ext ho40
  replace hE := hE.step ho40 (.inl (Nat.le_refl _))
  replace hN := hN.ext ho40
  replace hb3 := hb3.ext ho40
  replace hT1 := hT1.ext ho40
  replace hT2 := hT2.ext ho40
  replace hT3 := hT3.ext ho40
  replace hT4 := hT4.ext ho40
  refine st (mvT rfl) ?_
  refine st (y_ext rfl rfl) ?_
  refine st (y_ext rfl rfl) ?_
  refine st (y_ext rfl rfl) ?_
  refine st (y_ext rfl rfl) ?_
  refine st (asS rfl) ?_
  refine st (asI rfl) ?_
  refine st (asI rfl) ?_
  refine st (asI rfl) ?_
  refine rg_end ?_
  refine n_then ?_
  refine wp_seq ?_
  refine wp_seq ?_
  refine rg ?_
  refine st (mvI rfl) ?_
  refine st (mvI rfl) ?_
  refine st (y_neq rfl rfl) ?_
  refine st (mvB rfl) ?_
  refine stg rfl rfl (decide_eq_false (not_not_intro bF.sE)) (mvI rfl) ?_
  refine stg rfl rfl (decide_eq_false (not_not_intro bF.sE)) (mvI rfl) ?_
  refine stg rfl rfl (decide_eq_false (not_not_intro bF.sE)) (y_neq rfl rfl) ?_
  refine st (y_pickF rfl (decide_eq_false (not_not_intro bF.sE)) (v := .bool _) rfl) ?_
  refine st (mvB rfl) ?_
  refine stg rfl rfl (decide_eq_false (not_not_intro bT.sE)) (mvI rfl) ?_
  refine stg rfl rfl (decide_eq_false (not_not_intro bT.sE)) (mvI rfl) ?_
  refine stg rfl rfl (decide_eq_false (not_not_intro bT.sE)) (y_neq rfl rfl) ?_
  refine st (y_pickF rfl (decide_eq_false (not_not_intro bT.sE)) (v := .bool _) rfl) ?_
  refine st (mvB rfl) ?_
  refine stg rfl rfl (decide_eq_false (not_not_intro bF.sU)) (mvI rfl) ?_
  refine stg rfl rfl (decide_eq_false (not_not_intro bF.sU)) (mvI rfl) ?_
  refine stg rfl rfl (decide_eq_false (not_not_intro bF.sU)) (y_neq rfl rfl) ?_
  refine st (y_pickF rfl (decide_eq_false (not_not_intro bF.sU)) (v := .bool _) rfl) ?_
  refine st (mvB rfl) ?_
  refine stg rfl rfl (decide_eq_false (not_not_intro bT.sU)) (mvI rfl) ?_
  refine stg rfl rfl (decide_eq_false (not_not_intro bT.sU)) (mvI rfl) ?_
  refine stg rfl rfl (decide_eq_false (not_not_intro bT.sU)) (y_neq rfl rfl) ?_
  refine st (y_pickF rfl (decide_eq_false (not_not_intro bT.sU)) (v := .bool _) rfl) ?_
  refine st (mvB rfl) ?_
  refine stg rfl rfl (decide_eq_false (not_not_intro bT.sC.symm)) (mvS rfl) ?_
  refine stg rfl rfl (decide_eq_false (not_not_intro bT.sC.symm)) (mvS rfl) ?_
  refine scg rfl rfl (decide_eq_false (not_not_intro bT.sC.symm)) cl20 (keep_Same_int_ok _ _ _ _ _ _ _ _ _ _ _ hT1 hT4 (by have := findT_len (N := N) (all := false) (B := 1048576); omega)) rfl ?_
  rintro v49 w45 ⟨rfl, ho46⟩
  have hz50 := ho46.size
  replace hL0 := hL0.ext ho46
  replace hE := hE.step ho46 (.inl (Nat.le_refl _))
  replace hN := hN.ext ho46
  replace hb3 := hb3.ext ho46
  replace hT1 := hT1.ext ho46
  replace hT2 := hT2.ext ho46
  replace hT3 := hT3.ext ho46
  replace hT4 := hT4.ext ho46
  replace hT5 := hT5.ext ho46
  refine stg rfl rfl (decide_eq_false (not_not_intro bT.sC.symm)) (y_not rfl) ?_
  refine st (y_pickF rfl (decide_eq_false (not_not_intro bT.sC.symm)) (v := .bool _) rfl) ?_
  refine st (mvB rfl) ?_
  refine stg rfl rfl (congrArg Bool.not (decide_eq_true bF.sT.symm)) (mvS rfl) ?_
  refine stg rfl rfl (congrArg Bool.not (decide_eq_true bF.sT.symm)) (mvS rfl) ?_
  refine scg rfl rfl (congrArg Bool.not (decide_eq_true bF.sT.symm)) cl20 (keep_Same_int_ok _ _ _ _ _ _ _ _ _ _ _ hT2 hT5 (by have := findT_len (N := N) (all := true) (B := 1048576); omega)) rfl ?_
  rintro v55 w51 ⟨rfl, ho52⟩
  have hz56 := ho52.size
  replace hL0 := hL0.ext ho52
  replace hE := hE.step ho52 (.inl (Nat.le_refl _))
  replace hN := hN.ext ho52
  replace hb3 := hb3.ext ho52
  replace hT1 := hT1.ext ho52
  replace hT2 := hT2.ext ho52
  replace hT3 := hT3.ext ho52
  replace hT4 := hT4.ext ho52
  replace hT5 := hT5.ext ho52
  refine stg rfl rfl (congrArg Bool.not (decide_eq_true bF.sT.symm)) (y_not rfl) ?_
  refine st (y_pickF rfl (congrArg Bool.not (decide_eq_true bF.sT.symm)) (v := .bool _) rfl) ?_
  refine rg_end ?_
  refine n_then ?_
  refine cnd rfl (fun hc1 => absurd ((congrArg Bool.not (decide_eq_true bT.sT.symm)).symm.trans hc1) (by decide)) (fun hc1 => ?_)
  refine wp_skip ?_
  refine n_then ?_
  refine wp_seq ?_
  refine wp_seq ?_
  refine rg ?_
  refine st (mvI rfl) ?_
  refine st (y_gtr rfl rfl) ?_
  refine rg_end ?_
  refine n_then ?_
  refine cnd rfl (fun hc2 => ?_) (fun hc2 => ?_)
  ·
    try simp only [decide_eq_true_eq, decide_eq_false_iff_not, Bool.not_eq_true', Bool.not_eq_false', Bool.and_eq_true, Bool.or_eq_true, Bool.or_eq_false_iff, Bool.cond_true_right, Bool.cond_false_right, Bool.cond_true_left, Bool.cond_false_left, ne_eq, Decidable.not_not, bne_iff_ne, beq_iff_eq, beq_eq_false_iff_ne, Bool.not_true, Bool.not_false] at hc2
    refine wp_seq ?_
    refine rg ?_
    refine st (y_lbN hb3 agg26 rfl) ?_
    refine st (mvI rfl) ?_
    refine st (y_sub rfl rfl (by omega)) ?_
    refine sc cl13 (search_Feasible_ok N A _ _ (findU N false 1048576 - 1) _ hN) rfl ?_
    rintro v61 w57 ⟨at6, ct6, rfl, hT6, ho58⟩
    have hz62 := ho58.size
    replace hL0 := hL0.ext ho58
    replace hE := hE.step ho58 (.inl (Nat.le_refl _))
    replace hN := hN.ext ho58
    replace hb3 := hb3.ext ho58
    replace hT1 := hT1.ext ho58
    replace hT2 := hT2.ext ho58
    replace hT3 := hT3.ext ho58
    replace hT4 := hT4.ext ho58
    replace hT5 := hT5.ext ho58
    refine st (mvT rfl) ?_
    refine st (y_ext rfl rfl) ?_
    refine st (y_ext rfl rfl) ?_
    refine st (y_ext rfl rfl) ?_
    refine st (asS rfl) ?_
    refine st (asI rfl) ?_
    refine st (asI rfl) ?_
    refine rg_end ?_
    refine n_then ?_
    refine wp_seq ?_
    refine rg ?_
    refine st (mvI rfl) ?_
    refine st (y_neq rfl rfl) ?_
    refine st (mvB rfl) ?_
    refine stg rfl rfl (decide_eq_false (not_not_intro (bF.lE hc2))) (mvI rfl) ?_
    refine stg rfl rfl (decide_eq_false (not_not_intro (bF.lE hc2))) (y_neq rfl rfl) ?_
    refine st (y_pickF rfl (decide_eq_false (not_not_intro (bF.lE hc2))) (v := .bool _) rfl) ?_
    refine rg_end ?_
    refine n_then ?_
    refine cnd rfl (fun hc3 => absurd ((decide_eq_false (not_not_intro (bF.lU hc2))).symm.trans hc3) (by decide)) (fun hc3 => ?_)
    refine wp_skip ?_
    refine n_then ?_
    refine wp_seq ?_
    refine wp_seq ?_
    refine rg ?_
    refine st (mvI rfl) ?_
    refine st (y_gtr rfl rfl) ?_
    refine rg_end ?_
    refine n_then ?_
    refine cnd rfl (fun hc4 => ?_) (fun hc4 => ?_)
    ·
      try simp only [decide_eq_true_eq, decide_eq_false_iff_not, Bool.not_eq_true', Bool.not_eq_false', Bool.and_eq_true, Bool.or_eq_true, Bool.or_eq_false_iff, Bool.cond_true_right, Bool.cond_false_right, Bool.cond_true_left, Bool.cond_false_left, ne_eq, Decidable.not_not, bne_iff_ne, beq_iff_eq, beq_eq_false_iff_ne, Bool.not_true, Bool.not_false] at hc4
      refine wp_seq ?_
      refine rg ?_
      refine st (y_lbN hb3 agg26 rfl) ?_
      refine st (mvI rfl) ?_
      refine st (y_sub rfl rfl (by omega)) ?_
      refine sc cl18 (search_Solve_ok N A _ _ (findU N true 1048576 - 1) _ hN) rfl ?_
      rintro v67 w63 ⟨at7, ct7, rfl, hT7, ho64⟩
      have hz68 := ho64.size
      replace hL0 := hL0.ext ho64
      replace hE := hE.step ho64 (.inl (Nat.le_refl _))
      replace hN := hN.ext ho64
      replace hb3 := hb3.ext ho64
      replace hT1 := hT1.ext ho64
      replace hT2 := hT2.ext ho64
      replace hT3 := hT3.ext ho64
      replace hT4 := hT4.ext ho64
      replace hT5 := hT5.ext ho64
      replace hT6 := hT6.ext ho64
      refine st (mvT rfl) ?_
      refine st (y_ext rfl rfl) ?_
      refine st (y_ext rfl rfl) ?_
      refine st (y_ext rfl rfl) ?_
      refine st (y_ext rfl rfl) ?_
      refine st (asS rfl) ?_
      refine st (asI rfl) ?_
      refine st (asI rfl) ?_
      refine st (asI rfl) ?_
      refine rg_end ?_
      refine n_then ?_
      refine wp_seq ?_
      refine rg ?_
      refine st (mvI rfl) ?_
      refine st (y_neq rfl rfl) ?_
      refine st (mvB rfl) ?_
      refine stg rfl rfl (decide_eq_false (not_not_intro (bT.lE hc4))) (mvI rfl) ?_
      refine stg rfl rfl (decide_eq_false (not_not_intro (bT.lE hc4))) (y_neq rfl rfl) ?_
      refine st (y_pickF rfl (decide_eq_false (not_not_intro (bT.lE hc4))) (v := .bool _) rfl) ?_
      refine rg_end ?_
      refine n_then ?_
      refine cnd rfl (fun hc5 => absurd ((decide_eq_false (not_not_intro (bT.lU hc4))).symm.trans hc5) (by decide)) (fun hc5 => ?_)
      refine wp_skip ?_
      refine n_then ?_
      refine wp_seq ?_
      refine rg ?_
      refine sc cl15 (law17_awake_ok _) rfl ?_
      rintro v73 w69 ⟨rfl, ho70⟩
      have hz74 := ho70.size
      replace hL0 := hL0.ext ho70
      replace hE := hE.step ho70 (.inl (Nat.le_refl _))
      replace hN := hN.ext ho70
      replace hb3 := hb3.ext ho70
      replace hT1 := hT1.ext ho70
      replace hT2 := hT2.ext ho70
      replace hT3 := hT3.ext ho70
      replace hT4 := hT4.ext ho70
      replace hT5 := hT5.ext ho70
      replace hT6 := hT6.ext ho70
      replace hT7 := hT7.ext ho70
      refine st (asB rfl) ?_
      refine rg_end ?_
      refine n_then ?_
      refine wp_ret ?_
      refine ret1 (v := (.bool _)) Try.results9 rfl ?_
      exact ⟨rfl, hE⟩
    ·
      try simp only [decide_eq_true_eq, decide_eq_false_iff_not, Bool.not_eq_true', Bool.not_eq_false', Bool.and_eq_true, Bool.or_eq_true, Bool.or_eq_false_iff, Bool.cond_true_right, Bool.cond_false_right, Bool.cond_true_left, Bool.cond_false_left, ne_eq, Decidable.not_not, bne_iff_ne, beq_iff_eq, beq_eq_false_iff_ne, Bool.not_true, Bool.not_false] at hc4
      refine wp_skip ?_
      refine n_then ?_
      refine wp_seq ?_
      refine rg ?_
      refine sc cl15 (law17_awake_ok _) rfl ?_
      rintro v79 w75 ⟨rfl, ho76⟩
      have hz80 := ho76.size
      replace hL0 := hL0.ext ho76
      replace hE := hE.step ho76 (.inl (Nat.le_refl _))
      replace hN := hN.ext ho76
      replace hb3 := hb3.ext ho76
      replace hT1 := hT1.ext ho76
      replace hT2 := hT2.ext ho76
      replace hT3 := hT3.ext ho76
      replace hT4 := hT4.ext ho76
      replace hT5 := hT5.ext ho76
      replace hT6 := hT6.ext ho76
      refine st (asB rfl) ?_
      refine rg_end ?_
      refine n_then ?_
      refine wp_ret ?_
      refine ret1 (v := (.bool _)) Try.results9 rfl ?_
      exact ⟨rfl, hE⟩
  ·
    try simp only [decide_eq_true_eq, decide_eq_false_iff_not, Bool.not_eq_true', Bool.not_eq_false', Bool.and_eq_true, Bool.or_eq_true, Bool.or_eq_false_iff, Bool.cond_true_right, Bool.cond_false_right, Bool.cond_true_left, Bool.cond_false_left, ne_eq, Decidable.not_not, bne_iff_ne, beq_iff_eq, beq_eq_false_iff_ne, Bool.not_true, Bool.not_false] at hc2
    refine wp_skip ?_
    refine n_then ?_
    refine wp_seq ?_
    refine wp_seq ?_
    refine rg ?_
    refine st (mvI rfl) ?_
    refine st (y_gtr rfl rfl) ?_
    refine rg_end ?_
    refine n_then ?_
    refine cnd rfl (fun hc4 => ?_) (fun hc4 => ?_)
    ·
      try simp only [decide_eq_true_eq, decide_eq_false_iff_not, Bool.not_eq_true', Bool.not_eq_false', Bool.and_eq_true, Bool.or_eq_true, Bool.or_eq_false_iff, Bool.cond_true_right, Bool.cond_false_right, Bool.cond_true_left, Bool.cond_false_left, ne_eq, Decidable.not_not, bne_iff_ne, beq_iff_eq, beq_eq_false_iff_ne, Bool.not_true, Bool.not_false] at hc4
      refine wp_seq ?_
      refine rg ?_
      refine st (y_lbN hb3 agg26 rfl) ?_
      refine st (mvI rfl) ?_
      refine st (y_sub rfl rfl (by omega)) ?_
      refine sc cl18 (search_Solve_ok N A _ _ (findU N true 1048576 - 1) _ hN) rfl ?_
      rintro v85 w81 ⟨at7, ct7, rfl, hT7, ho82⟩
      have hz86 := ho82.size
      replace hL0 := hL0.ext ho82
      replace hE := hE.step ho82 (.inl (Nat.le_refl _))
      replace hN := hN.ext ho82
      replace hb3 := hb3.ext ho82
      replace hT1 := hT1.ext ho82
      replace hT2 := hT2.ext ho82
      replace hT3 := hT3.ext ho82
      replace hT4 := hT4.ext ho82
      replace hT5 := hT5.ext ho82
      refine st (mvT rfl) ?_
      refine st (y_ext rfl rfl) ?_
      refine st (y_ext rfl rfl) ?_
      refine st (y_ext rfl rfl) ?_
      refine st (y_ext rfl rfl) ?_
      refine st (asS rfl) ?_
      refine st (asI rfl) ?_
      refine st (asI rfl) ?_
      refine st (asI rfl) ?_
      refine rg_end ?_
      refine n_then ?_
      refine wp_seq ?_
      refine rg ?_
      refine st (mvI rfl) ?_
      refine st (y_neq rfl rfl) ?_
      refine st (mvB rfl) ?_
      refine stg rfl rfl (decide_eq_false (not_not_intro (bT.lE hc4))) (mvI rfl) ?_
      refine stg rfl rfl (decide_eq_false (not_not_intro (bT.lE hc4))) (y_neq rfl rfl) ?_
      refine st (y_pickF rfl (decide_eq_false (not_not_intro (bT.lE hc4))) (v := .bool _) rfl) ?_
      refine rg_end ?_
      refine n_then ?_
      refine cnd rfl (fun hc5 => absurd ((decide_eq_false (not_not_intro (bT.lU hc4))).symm.trans hc5) (by decide)) (fun hc5 => ?_)
      refine wp_skip ?_
      refine n_then ?_
      refine wp_seq ?_
      refine rg ?_
      refine sc cl15 (law17_awake_ok _) rfl ?_
      rintro v91 w87 ⟨rfl, ho88⟩
      have hz92 := ho88.size
      replace hL0 := hL0.ext ho88
      replace hE := hE.step ho88 (.inl (Nat.le_refl _))
      replace hN := hN.ext ho88
      replace hb3 := hb3.ext ho88
      replace hT1 := hT1.ext ho88
      replace hT2 := hT2.ext ho88
      replace hT3 := hT3.ext ho88
      replace hT4 := hT4.ext ho88
      replace hT5 := hT5.ext ho88
      replace hT7 := hT7.ext ho88
      refine st (asB rfl) ?_
      refine rg_end ?_
      refine n_then ?_
      refine wp_ret ?_
      refine ret1 (v := (.bool _)) Try.results9 rfl ?_
      exact ⟨rfl, hE⟩
    ·
      try simp only [decide_eq_true_eq, decide_eq_false_iff_not, Bool.not_eq_true', Bool.not_eq_false', Bool.and_eq_true, Bool.or_eq_true, Bool.or_eq_false_iff, Bool.cond_true_right, Bool.cond_false_right, Bool.cond_true_left, Bool.cond_false_left, ne_eq, Decidable.not_not, bne_iff_ne, beq_iff_eq, beq_eq_false_iff_ne, Bool.not_true, Bool.not_false] at hc4
      refine wp_skip ?_
      refine n_then ?_
      refine wp_seq ?_
      refine rg ?_
      refine sc cl15 (law17_awake_ok _) rfl ?_
      rintro v97 w93 ⟨rfl, ho94⟩
      have hz98 := ho94.size
      replace hL0 := hL0.ext ho94
      replace hE := hE.step ho94 (.inl (Nat.le_refl _))
      replace hN := hN.ext ho94
      replace hb3 := hb3.ext ho94
      replace hT1 := hT1.ext ho94
      replace hT2 := hT2.ext ho94
      replace hT3 := hT3.ext ho94
      replace hT4 := hT4.ext ho94
      replace hT5 := hT5.ext ho94
      refine st (asB rfl) ?_
      refine rg_end ?_
      refine n_then ?_
      refine wp_ret ?_
      refine ret1 (v := (.bool _)) Try.results9 rfl ?_
      exact ⟨rfl, hE⟩
end Go.Proofs.Ytdbiapbdmmkfjaa
