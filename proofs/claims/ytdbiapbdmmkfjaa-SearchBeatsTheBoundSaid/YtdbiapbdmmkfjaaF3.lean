/-
  Walks of the functions, printed by a program out of the code and the loops' relations.
-/
import Derived.Test.YtdbiapbdmmkfjaaWkD
import Derived.Test.YtdbiapbdmmkfjaaProg
import Derived.KernelRfl
import Derived.Test.YtdbiapbdmmkfjaaF2
import Derived.Test.YtdbiapbdmmkfjaaSz
namespace Go.Proofs.Ytdbiapbdmmkfjaa
open Go.Wk Go.RowKit
set_option linter.unusedVariables false
set_option linter.unusedSimpArgs false
theorem cl24 : Callable Try.prog 24 := ⟨Try.call24⟩
theorem cl25 : Callable Try.prog 25 := ⟨Try.call25⟩

set_option maxHeartbeats 1000000 in
set_option maxRecDepth 100000 in
theorem law17_SearchIsOptimal_ok (a0 : Option Addr) (c0 : Nat) (l0 : List Int) (a1 : Option Addr) (c1 : Nat) (l1 : List Int) (w : World) (hL0 : Ints 0 w.heap.size w a0 l0) (hl0 : (l0.length : Int) ≤ 9223372036854775807) (hL1 : Ints 0 w.heap.size w a1 l1) (hl1 : (l1.length : Int) ≤ 9223372036854775807) : Cal Try.prog 7 [.slice a0 l0.length c0, .slice a1 l1.length c1] w (fun v w' => v = .bool true ∧ Ext w w') := by
  have hE : Out 0 0 w w := Out.refl _ _ w
  refine enter Try.func7 rfl Try.ntmps7 rfl ?_
  refine wp_seq ?_
  refine rg ?_
  refine st (asB rfl) ?_
  refine rg_end ?_
  refine n_then ?_
  refine wp_seq ?_
  refine rg ?_
  refine st (mvS rfl) ?_
  refine sc cl23 (keep_Slack_ok _ _ _ _ _ _ hL0 hl0) rfl ?_
  rintro v5 w1 ⟨N, A, rfl, hsm, hN, ho2⟩
  have hok := hsm.1
  obtain ⟨_, gp2, gp9, gev1, gev5, gac8, gmn⟩ := id hsm
  have hz6 := ho2.size
  replace hL0 := hL0.ext ho2
  replace hL1 := hL1.ext ho2
  replace hE := hE.step ho2 (.inl (Nat.le_refl _))
  refine sd (d_allocA zer26 ?_)
  intro b3 w7 hbb3 hs9 ho8 hb3
  have hz10 := ho8.size
  replace hL0 := hL0.ext ho8
  replace hL1 := hL1.ext ho8
  replace hE := hE.step ho8 (.inl (Nat.le_refl _))
  replace hN := hN.ext ho8
  refine sd0 (d_stN hb3 rfl rfl sz26 rfl rfl ?_)
  intro w11 hs13 ho12 hb3'
  clear hb3; have hb3 := hb3'; clear hb3'
  have hz14 := ho12.size
  replace hL0 := hL0.out ho12 (by first | omega | (simp only [blk_some, hi1_some] at *; omega))
  replace hL1 := hL1.out ho12 (by first | omega | (simp only [blk_some, hi1_some] at *; omega))
  replace hE := hE.step ho12 (by first | omega | (simp only [blk_some, hi1_some] at *; omega))
  replace hN := hN.out ho12 (by first | omega | (simp only [blk_some, hi1_some] at *; omega))
  refine rg_end ?_
  refine n_then ?_
  refine wp_seq ?_
  refine rg ?_
  refine st (y_lbN hb3 agg26 rfl) ?_
  refine st (mvS rfl) ?_
  refine sc cl24 (keep_Times_ok N A _ _ _ _ _ _ _ _ hN hL1 hl1 (by omega) (by omega)) rfl ?_
  rintro v19 w15 ⟨ax, cx, x, rfl, hX, hxl, hxr, ho16⟩
  have hopt := small_opt hsm x
  have hz20 := ho16.size
  replace hL0 := hL0.ext ho16
  replace hL1 := hL1.ext ho16
  replace hE := hE.step ho16 (.inl (Nat.le_refl _))
  replace hN := hN.ext ho16
  replace hb3 := hb3.ext ho16
  refine st (asS rfl) ?_
  refine rg_end ?_
  refine n_then ?_
  refine wp_seq ?_
  refine rg ?_
  refine st (y_lbN hb3 agg26 rfl) ?_
  refine sc cl18 (search_Solve_ok N A _ _ 1048576 _ hN) rfl ?_
  rintro v25 w21 ⟨at1, ct1, rfl, hT1, ho22⟩
  have hz26 := ho22.size
  replace hL0 := hL0.ext ho22
  replace hL1 := hL1.ext ho22
  replace hE := hE.step ho22 (.inl (Nat.le_refl _))
  replace hN := hN.ext ho22
  replace hb3 := hb3.ext ho22
  replace hX := hX.ext ho22
  refine st (mvT rfl) ?_
  refine st (y_ext rfl rfl) ?_
  refine st (y_ext rfl rfl) ?_
  refine st (y_ext rfl rfl) ?_
  refine st (y_ext rfl rfl) ?_
  refine st (asS rfl) ?_
  refine st (asI rfl) ?_
  refine st (asI rfl) ?_
  refine st (asI rfl) ?_
  refine rg_end ?_
  refine n_then ?_
  refine wp_seq ?_
  refine wp_seq ?_
  refine rg ?_
  refine st (mvI rfl) ?_
  refine st (y_neq rfl rfl) ?_
  refine rg_end ?_
  refine n_then ?_
  refine cnd rfl (fun hc0 => ?_) (fun hc0 => ?_)
  ·
    try simp only [decide_eq_true_eq, decide_eq_false_iff_not, Bool.not_eq_true', Bool.not_eq_false', Bool.and_eq_true, Bool.or_eq_true, Bool.or_eq_false_iff, Bool.cond_true_right, Bool.cond_false_right, Bool.cond_true_left, Bool.cond_false_left, ne_eq, Decidable.not_not, bne_iff_ne, beq_iff_eq, beq_eq_false_iff_ne, Bool.not_true, Bool.not_false] at hc0
    obtain ⟨q1, q2⟩ : findE N true 1048576 = 14 ∧ feas N x = false := by
      rcases hopt with h | h
      · exact h
      · exact absurd h.1 hc0
    refine wp_seq ?_
    refine rg ?_
    refine sc cl15 (law17_awake_ok _) rfl ?_
    rintro v31 w27 ⟨rfl, ho28⟩
    have hz32 := ho28.size
    replace hL0 := hL0.ext ho28
    replace hL1 := hL1.ext ho28
    replace hE := hE.step ho28 (.inl (Nat.le_refl _))
    replace hN := hN.ext ho28
    replace hb3 := hb3.ext ho28
    replace hX := hX.ext ho28
    replace hT1 := hT1.ext ho28
    refine st (mvB rfl) ?_
    refine stg rfl rfl rfl (mvI rfl) ?_
    refine stg rfl rfl rfl (y_eql rfl rfl) ?_
    refine st (y_pickT rfl rfl (v := .bool _) rfl) ?_
    refine st (mvB rfl) ?_
    refine stg rfl rfl (decide_eq_true q1) (y_lbN hb3 agg26 rfl) ?_
    refine stg rfl rfl (decide_eq_true q1) (mvS rfl) ?_
    refine scg rfl rfl (decide_eq_true q1) cl25 (ref11_Feasible_ok N A _ _ x _ _ _ _ _ hN hX) rfl ?_
    rintro v37 w33 ⟨rfl, ho34⟩
    have hz38 := ho34.size
    replace hL0 := hL0.ext ho34
    replace hL1 := hL1.ext ho34
    replace hE := hE.step ho34 (.inl (Nat.le_refl _))
    replace hN := hN.ext ho34
    replace hb3 := hb3.ext ho34
    replace hX := hX.ext ho34
    replace hT1 := hT1.ext ho34
    refine stg rfl rfl (decide_eq_true q1) (y_not rfl) ?_
    refine st (y_pickT rfl (decide_eq_true q1) (v := .bool _) rfl) ?_
    refine st (asB rfl) ?_
    refine rg_end ?_
    refine n_then ?_
    refine wp_ret ?_
    refine r_then (ret1 (v := (.bool _)) Try.results7 rfl ?_)
    exact ⟨vb (by simp [q2]), hE⟩
  ·
    try simp only [decide_eq_true_eq, decide_eq_false_iff_not, Bool.not_eq_true', Bool.not_eq_false', Bool.and_eq_true, Bool.or_eq_true, Bool.or_eq_false_iff, Bool.cond_true_right, Bool.cond_false_right, Bool.cond_true_left, Bool.cond_false_left, ne_eq, Decidable.not_not, bne_iff_ne, beq_iff_eq, beq_eq_false_iff_ne, Bool.not_true, Bool.not_false] at hc0
    obtain ⟨q1, q2, q3, q4⟩ : findE N true 1048576 = 0 ∧ feas N (findT N true 1048576) = true ∧ findC N true 1048576 = costN N (findT N true 1048576) ∧ (feas N x = true → findC N true 1048576 ≤ costN N x) := by
      rcases hopt with h | h
      · rw [h.1] at hc0; cases hc0
      · exact h
    have gy := (feas_iff.1 q2).1
    refine wp_skip ?_
    refine n_then ?_
    refine wp_seq ?_
    refine rg ?_
    refine st (y_lbN hb3 agg26 rfl) ?_
    refine st (mvS rfl) ?_
    refine sc cl26 (ref11_Cost_ok N A _ _ (findT N true 1048576) _ _ _ _ _ hN hT1) rfl ?_
    rintro v43 w39 ⟨d, ed, rfl, gd, bd, ho40⟩
    have hz44 := ho40.size
    replace hL0 := hL0.ext ho40
    replace hL1 := hL1.ext ho40
    replace hE := hE.step ho40 (.inl (Nat.le_refl _))
    replace hN := hN.ext ho40
    replace hb3 := hb3.ext ho40
    replace hX := hX.ext ho40
    replace hT1 := hT1.ext ho40
    refine st (mvT rfl) ?_
    refine st (y_ext rfl rfl) ?_
    refine st (y_ext rfl rfl) ?_
    refine st (asI rfl) ?_
    refine st (asI rfl) ?_
    refine rg_end ?_
    refine n_then ?_
    refine wp_seq ?_
    refine rg ?_
    refine st (y_lbN hb3 agg26 rfl) ?_
    refine st (mvS rfl) ?_
    refine sc cl26 (ref11_Cost_ok N A _ _ x _ _ _ _ _ hN hX) rfl ?_
    rintro v49 w45 ⟨k, ek, rfl, gk, bk, ho46⟩
    have hz50 := ho46.size
    replace hL0 := hL0.ext ho46
    replace hL1 := hL1.ext ho46
    replace hE := hE.step ho46 (.inl (Nat.le_refl _))
    replace hN := hN.ext ho46
    replace hb3 := hb3.ext ho46
    replace hX := hX.ext ho46
    replace hT1 := hT1.ext ho46
    refine st (mvT rfl) ?_
    refine st (y_ext rfl rfl) ?_
    refine st (y_ext rfl rfl) ?_
    refine st (asI rfl) ?_
    refine st (asI rfl) ?_
    refine rg_end ?_
    refine n_then ?_
    refine wp_seq ?_
    refine rg ?_
    refine sc cl15 (law17_awake_ok _) rfl ?_
    rintro v55 w51 ⟨rfl, ho52⟩
    have hz56 := ho52.size
    replace hL0 := hL0.ext ho52
    replace hL1 := hL1.ext ho52
    replace hE := hE.step ho52 (.inl (Nat.le_refl _))
    replace hN := hN.ext ho52
    replace hb3 := hb3.ext ho52
    replace hX := hX.ext ho52
    replace hT1 := hT1.ext ho52
    refine st (mvB rfl) ?_
    refine stg rfl rfl rfl (y_lbN hb3 agg26 rfl) ?_
    refine stg rfl rfl rfl (mvS rfl) ?_
    refine scg rfl rfl rfl cl25 (ref11_Feasible_ok N A _ _ (findT N true 1048576) _ _ _ _ _ hN hT1) rfl ?_
    rintro v61 w57 ⟨rfl, ho58⟩
    have hz62 := ho58.size
    replace hL0 := hL0.ext ho58
    replace hL1 := hL1.ext ho58
    replace hE := hE.step ho58 (.inl (Nat.le_refl _))
    replace hN := hN.ext ho58
    replace hb3 := hb3.ext ho58
    replace hX := hX.ext ho58
    replace hT1 := hT1.ext ho58
    refine st (y_pickT rfl rfl (v := .bool _) rfl) ?_
    refine st (mvB rfl) ?_
    refine stg rfl rfl q2 (mvI rfl) ?_
    refine stg rfl rfl q2 (mvI rfl) ?_
    refine stg rfl rfl q2 (y_eql rfl rfl) ?_
    refine st (y_pickT rfl q2 (v := .bool _) rfl) ?_
    refine st (mvB rfl) ?_
    refine stg rfl rfl (decide_eq_true (q3.trans ((gd (goodT_iff.2 gy)).1.trans (cost_all hok)).symm)) (y_lbN hb3 agg26 rfl) ?_
    refine stg rfl rfl (decide_eq_true (q3.trans ((gd (goodT_iff.2 gy)).1.trans (cost_all hok)).symm)) (mvS rfl) ?_
    refine scg rfl rfl (decide_eq_true (q3.trans ((gd (goodT_iff.2 gy)).1.trans (cost_all hok)).symm)) cl25 (ref11_Feasible_ok N A _ _ x _ _ _ _ _ hN hX) rfl ?_
    rintro v67 w63 ⟨rfl, ho64⟩
    have hz68 := ho64.size
    replace hL0 := hL0.ext ho64
    replace hL1 := hL1.ext ho64
    replace hE := hE.step ho64 (.inl (Nat.le_refl _))
    replace hN := hN.ext ho64
    replace hb3 := hb3.ext ho64
    replace hX := hX.ext ho64
    replace hT1 := hT1.ext ho64
    refine stg rfl rfl (decide_eq_true (q3.trans ((gd (goodT_iff.2 gy)).1.trans (cost_all hok)).symm)) (y_not rfl) ?_
    refine stg rfl rfl (decide_eq_true (q3.trans ((gd (goodT_iff.2 gy)).1.trans (cost_all hok)).symm)) (mvB rfl) ?_
    refine gspL 68 rfl (fun hg69 => ?_) (fun hg69 => ?_)
    ·
      have hg69n := hg69; try simp only [decide_eq_true_eq, decide_eq_false_iff_not, Bool.not_eq_true', Bool.not_eq_false', Bool.and_eq_true, Bool.or_eq_true, Bool.or_eq_false_iff, Bool.cond_true_right, Bool.cond_false_right, Bool.cond_true_left, Bool.cond_false_left, ne_eq, Decidable.not_not, bne_iff_ne, beq_iff_eq, beq_eq_false_iff_ne, Bool.not_true, Bool.not_false] at hg69n
      refine sts rfl rfl hg69 ?_
      refine sts rfl rfl hg69 ?_
      refine sts rfl rfl hg69 ?_
      refine stg rfl rfl (decide_eq_true (q3.trans ((gd (goodT_iff.2 gy)).1.trans (cost_all hok)).symm)) (y_pickT rfl hg69 (v := .bool _) rfl) ?_
      refine st (y_pickT rfl (decide_eq_true (q3.trans ((gd (goodT_iff.2 gy)).1.trans (cost_all hok)).symm)) (v := .bool _) rfl) ?_
      refine st (asB rfl) ?_
      refine rg_end ?_
      refine n_then ?_
      refine wp_ret ?_
      refine ret1 (v := (.bool _)) Try.results7 rfl ?_
      first
        | exact ⟨rfl, hE⟩
        | exact ⟨vb (by simp only [ge_iff_le, decide_eq_true_eq, iff_true]; rw [hk]; exact hq), hE⟩
    ·
      have hg69n := hg69; try simp only [decide_eq_true_eq, decide_eq_false_iff_not, Bool.not_eq_true', Bool.not_eq_false', Bool.and_eq_true, Bool.or_eq_true, Bool.or_eq_false_iff, Bool.cond_true_right, Bool.cond_false_right, Bool.cond_true_left, Bool.cond_false_left, ne_eq, Decidable.not_not, bne_iff_ne, beq_iff_eq, beq_eq_false_iff_ne, Bool.not_true, Bool.not_false] at hg69n
      have hfx : feas N x = true := by simpa using hg69
      have hk := (gk (goodT_iff.2 (feas_iff.1 hfx).1)).1.trans (cost_all hok)
      have hq := q4 hfx
      refine stg rfl rfl hg69 (mvI rfl) ?_
      refine stg rfl rfl hg69 (mvI rfl) ?_
      refine stg rfl rfl hg69 (y_geq rfl rfl) ?_
      refine stg rfl rfl (decide_eq_true (q3.trans ((gd (goodT_iff.2 gy)).1.trans (cost_all hok)).symm)) (y_pickF rfl hg69 (v := .bool _) rfl) ?_
      refine st (y_pickT rfl (decide_eq_true (q3.trans ((gd (goodT_iff.2 gy)).1.trans (cost_all hok)).symm)) (v := .bool _) rfl) ?_
      refine st (asB rfl) ?_
      refine rg_end ?_
      refine n_then ?_
      refine wp_ret ?_
      refine ret1 (v := (.bool _)) Try.results7 rfl ?_
      first
        | exact ⟨rfl, hE⟩
        | exact ⟨vb (by simp only [ge_iff_le, decide_eq_true_eq, iff_true]; rw [hk]; exact hq), hE⟩
end Go.Proofs.Ytdbiapbdmmkfjaa
