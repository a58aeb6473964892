/-
  Walks of the functions, printed by a program out of the code and the loops' relations.
-/
import Derived.Test.YtgekfafangcggaaWkD
import Derived.Test.YtgekfafangcggaaProg
import Derived.KernelRfl
import Derived.Test.YtgekfafangcggaaU2
namespace Go.Proofs.Ytgekfafangcggaa
open Go.Wk Go.RowKit
set_option linter.unusedVariables false
set_option linter.unusedSimpArgs false
set_option maxHeartbeats 1000000 in
set_option maxRecDepth 100000 in
theorem law16_SimplexEndsLocally_ok (a0 : Option Addr) (c0 : Nat) (l0 : List Int) (a1 : Option Addr) (c1 : Nat) (l1 : List Int) (B : Int) (w : World) (hL0 : Ints 0 w.heap.size w a0 l0) (hl0 : (l0.length : Int) ≤ 9223372036854775807) (hL1 : Ints 0 w.heap.size w a1 l1) (hl1 : (l1.length : Int) ≤ 9223372036854775807)  : Cal Try.prog 7 [.slice a0 l0.length c0, .slice a1 l1.length c1, .int .i64 B] w (fun v w' => v = .bool true ∧ Ext w w') := by
  have hE : Out 0 0 w w := Out.refl _ _ w
  refine enter Try.func7 rfl Try.ntmps7 rfl ?_
  refine wp_seq ?_
  refine rg ?_
  refine st (asB rfl) ?_
  refine rg_end ?_
  refine n_then ?_
  refine wp_seq ?_
  refine rg ?_
  refine st (mvS rfl) ?_
  refine sc cl20 (law16_wide_ok _ _ _ _ hL0 hl0) rfl ?_
  rintro v5 w1 ⟨N, A, rfl, hsm, hwd, hN, ho2⟩
  have hok := hsm.1
  have hac := hok.ac
  have hev := hok.ev
  have hp2 := hok.p2
  have hp7 := hok.p7
  have hz6 := ho2.size
  replace hL0 := hL0.ext ho2
  replace hL1 := hL1.ext ho2
  replace hE := hE.step ho2 (.inl (Nat.le_refl _))
  refine sd (d_allocA zer26 ?_)
  intro b7 w7 hbb7 hs9 ho8 hb7
  have hz10 := ho8.size
  replace hL0 := hL0.ext ho8
  replace hL1 := hL1.ext ho8
  replace hE := hE.step ho8 (.inl (Nat.le_refl _))
  replace hN := hN.ext ho8
  refine sd0 (d_stN hb7 rfl rfl sz26 rfl rfl ?_)
  intro w11 hs13 ho12 hb7'
  clear hb7; have hb7 := hb7'; clear hb7'
  have hz14 := ho12.size
  replace hL0 := hL0.out ho12 (by first | omega | (simp only [blk_some, hi1_some] at *; omega))
  replace hL1 := hL1.out ho12 (by first | omega | (simp only [blk_some, hi1_some] at *; omega))
  replace hE := hE.step ho12 (by first | omega | (simp only [blk_some, hi1_some] at *; omega))
  replace hN := hN.out ho12 (by first | omega | (simp only [blk_some, hi1_some] at *; omega))
  refine rg_end ?_
  refine n_then ?_
  refine wp_seq ?_
  refine rg ?_
  refine st (y_lbN hb7 agg26 rfl) ?_
  refine st (mvS rfl) ?_
  refine sc cl21 (keep_Times_ok N A _ _ _ _ _ _ _ _ hN hL1 hl1 (by omega) (by omega)) rfl ?_
  rintro v19 w15 ⟨ax, cx, x, rfl, hX, hxl, hxr, ho16⟩
  have hg : GoodT N x := ⟨hok, hxl, hxr⟩
  have hft := wide_feas hwd hg
  have hz20 := ho16.size
  replace hL0 := hL0.ext ho16
  replace hL1 := hL1.ext ho16
  replace hE := hE.step ho16 (.inl (Nat.le_refl _))
  replace hN := hN.ext ho16
  replace hb7 := hb7.ext ho16
  refine st (asS rfl) ?_
  refine rg_end ?_
  refine n_then ?_
  refine wp_seq ?_
  refine rgD 13 (fun w_ => Ext w15 w_) (fun i => Nat.beq i 2 || Nat.beq i 4) mixed (by kernel_rfl) ?_
  intro w21 ho22 hs23
  refine ⟨ho22, ?_⟩
  have hx24 := ho22
  refine tn rfl (fun _ hG => y_lbN (hb7.ext hG) agg26 rfl) ?_
  refine tn rfl (fun _ hG => y_lbN (hb7.ext hG) agg26 rfl) ?_
  refine tc rfl cl13 (ref11_TreeX_ok N A _ _ _ (hN.ext hx24) hok) rfl ?_
  rintro v29 w25 ⟨ar1, cr1, rfl, hTr1, hfo1, htl1, hcap1, ho26⟩
  have hx30 := hx24.step ho26 (.inl (Nat.le_refl _))
  have hz31 := ho26.size
  refine ⟨hx30, ?_⟩
  refine tn rfl (fun _ hG => mvS rfl) ?_
  refine tc rfl cl25 (simplex_Solve_ok N A _ _ (trX N) _ _ _ _ x _ _ _ _ 200 _ (hN.ext hx30) hTr1 (by omega) (hX.ext hx30)) rfl ?_
  rintro v36 w32 ⟨af1, cf1, f1, ax1, cx1, T1, m1, e1, rfl, hF1, hX1, hdj1, hr1, ho33⟩
  have hlm := hr1.len
  obtain ⟨rfl, rfl, rfl, rfl⟩ := hr1.c hfo1 hft (by omega)
  obtain ⟨q1, q2, q3, q4, q5⟩ := smF_ok (200 : Int).toNat (trX N) x hfo1 hft
  have hx37 := hx30.step ho33 (.inl (Nat.le_refl _))
  have hz38 := ho33.size
  replace hTr1 := hTr1.ext ho33
  refine ⟨hx37, ?_⟩
  refine tn rfl (fun _ hG => mvT rfl) ?_
  refine tn rfl (fun _ hG => y_ext rfl rfl) ?_
  refine tn rfl (fun _ hG => y_ext rfl rfl) ?_
  refine tn rfl (fun _ hG => y_ext rfl rfl) ?_
  refine tn rfl (fun _ hG => y_ext rfl rfl) ?_
  refine tn rfl (fun _ hG => asS rfl) ?_
  refine tn rfl (fun _ hG => asS rfl) ?_
  refine tn rfl (fun _ hG => asI rfl) ?_
  refine t_end ?_
  have hz39 := hx37.size
  replace hL0 := hL0.ext hx37
  replace hL1 := hL1.ext hx37
  replace hE := hE.step hx37 (.inl (Nat.le_refl _))
  replace hN := hN.ext hx37
  replace hb7 := hb7.ext hx37
  replace hX := hX.ext hx37
  refine st (asI rfl) ?_
  refine rg_end ?_
  refine n_then ?_
  refine wp_seq ?_
  refine wp_seq ?_
  refine rg ?_
  refine st (mvI rfl) ?_
  refine st (y_neq rfl rfl) ?_
  refine st (mvB rfl) ?_
  refine stg rfl rfl (decide_eq_false (not_not_intro rfl)) (mvI rfl) ?_
  refine stg rfl rfl (decide_eq_false (not_not_intro rfl)) (y_geq rfl rfl) ?_
  refine st (y_pickF rfl (decide_eq_false (not_not_intro rfl)) (v := .bool _) rfl) ?_
  refine rg_end ?_
  refine n_then ?_
  refine cnd rfl (fun hc0 => ?_) (fun hc0 => ?_)
  ·
    try simp only [decide_eq_true_eq, decide_eq_false_iff_not, Bool.not_eq_true', Bool.not_eq_false', Bool.and_eq_true, Bool.or_eq_true, Bool.or_eq_false_iff, Bool.cond_true_right, Bool.cond_false_right, Bool.cond_true_left, Bool.cond_false_left, ne_eq, Decidable.not_not, bne_iff_ne, beq_iff_eq, beq_eq_false_iff_ne, Bool.not_true, Bool.not_false] at hc0
    refine wp_seq ?_
    refine rg ?_
    refine sc cl14 (law16_awake_ok _) rfl ?_
    rintro v44 w40 ⟨rfl, ho41⟩
    have hz45 := ho41.size
    replace hL0 := hL0.ext ho41
    replace hL1 := hL1.ext ho41
    replace hE := hE.step ho41 (.inl (Nat.le_refl _))
    replace hN := hN.ext ho41
    replace hb7 := hb7.ext ho41
    replace hX := hX.ext ho41
    replace hTr1 := hTr1.ext ho41
    replace hF1 := hF1.ext ho41
    replace hX1 := hX1.ext ho41
    refine st (mvB rfl) ?_
    refine stg rfl rfl rfl (mvI rfl) ?_
    refine stg rfl rfl rfl (y_eql rfl rfl) ?_
    refine st (y_pickT rfl rfl (v := .bool _) rfl) ?_
    refine st (asB rfl) ?_
    refine rg_end ?_
    refine n_then ?_
    refine wp_ret ?_
    refine r_then (ret1 (v := (.bool _)) Try.results7 rfl ?_)
    exact ⟨congrArg Value.bool (decide_eq_true rfl), hE⟩
  ·
    try simp only [decide_eq_true_eq, decide_eq_false_iff_not, Bool.not_eq_true', Bool.not_eq_false', Bool.and_eq_true, Bool.or_eq_true, Bool.or_eq_false_iff, Bool.cond_true_right, Bool.cond_false_right, Bool.cond_true_left, Bool.cond_false_left, ne_eq, Decidable.not_not, bne_iff_ne, beq_iff_eq, beq_eq_false_iff_ne, Bool.not_true, Bool.not_false] at hc0
    have hend := smF_end (N := N) (200 : Int).toNat (trX N) x (by omega)
    refine wp_skip ?_
    refine n_then ?_
    refine wp_seq ?_
    refine rg ?_
    refine st (y_lbN hb7 agg26 rfl) ?_
    refine st (mvS rfl) ?_
    refine st (mvS rfl) ?_
    refine sc cl27 (simplex_Best_ok N A _ _ (smF N (200 : Int).toNat (trX N) x).1 _ _ _ _ (smF N (200 : Int).toNat (trX N) x).2.1 _ _ _ _ _ hN (Ow.sl hF1) (by omega) (Ow.sl hX1)) rfl ?_
    rintro v50 w46 ⟨o5, i5, k5, e5, rfl, hq5, ho47⟩
    obtain ⟨rfl, rfl, rfl, rfl⟩ := hq5.b q1 q2
    have hz51 := ho47.size
    replace hL0 := hL0.ext ho47
    replace hL1 := hL1.ext ho47
    replace hE := hE.step ho47 (.inl (Nat.le_refl _))
    replace hN := hN.ext ho47
    replace hb7 := hb7.ext ho47
    replace hX := hX.ext ho47
    replace hTr1 := hTr1.ext ho47
    replace hF1 := hF1.ext ho47
    replace hX1 := hX1.ext ho47
    refine st (mvT rfl) ?_
    refine st (y_ext rfl rfl) ?_
    refine st (y_ext rfl rfl) ?_
    refine st (y_ext rfl rfl) ?_
    refine st (y_ext rfl rfl) ?_
    refine st (asI rfl) ?_
    refine st (asI rfl) ?_
    refine st (asB rfl) ?_
    refine st (asI rfl) ?_
    refine rg_end ?_
    refine n_then ?_
    refine wp_seq ?_
    refine rgD 16 (fun w_ => Ext w46 w_) (fun i => Nat.beq i 2 || Nat.beq i 5 || Nat.beq i 7) mixed (by kernel_rfl) ?_
    intro w52 ho53 hs54
    refine ⟨ho53, ?_⟩
    have hx55 := ho53
    refine tn rfl (fun _ hG => y_lbN (hb7.ext hG) agg26 rfl) ?_
    refine tn rfl (fun _ hG => y_lbN (hb7.ext hG) agg26 rfl) ?_
    refine tc rfl cl13 (ref11_TreeX_ok N A _ _ _ (hN.ext hx55) hok) rfl ?_
    rintro v60 w56 ⟨ar2, cr2, rfl, hTr2, hfo2, htl2, hcap2, ho57⟩
    have hx61 := hx55.step ho57 (.inl (Nat.le_refl _))
    have hz62 := ho57.size
    refine ⟨hx61, ?_⟩
    refine tn rfl (fun _ hG => mvS rfl) ?_
    refine tn rfl (fun _ hG => mvI rfl) ?_
    refine tc rfl cl15 (keep_Pick_ok _ _ _ (by omega) (by omega)) rfl ?_
    rintro v67 w63 ⟨rfl, ho64⟩
    have hp1 := pick_rng B 100 (by omega)
    have hx68 := hx61.step ho64 (.inl (Nat.le_refl _))
    have hz69 := ho64.size
    replace hTr2 := hTr2.ext ho64
    refine ⟨hx68, ?_⟩
    refine tn rfl (fun _ hG => y_add rfl rfl (by omega)) ?_
    refine tc rfl cl25 (simplex_Solve_ok N A _ _ (trX N) _ _ _ _ x _ _ _ _ (200 + pick B 100) _ (hN.ext hx68) hTr2 (by omega) (hX.ext hx68)) rfl ?_
    rintro v74 w70 ⟨af2, cf2, f2, ax2, cx2, T2, m2, e2, rfl, hF2, hX2, hdj2, hr2, ho71⟩
    have hlm2 := hr2.len
    obtain ⟨rfl, rfl, rfl, rfl⟩ := hr2.c hfo2 hft (by omega)
    have hBB : (200 + pick B 100).toNat = (200 : Int).toNat + (pick B 100).toNat := by omega
    have hsame := hend.2 (pick B 100).toNat
    rw [← hBB] at hsame
    have hx75 := hx68.step ho71 (.inl (Nat.le_refl _))
    have hz76 := ho71.size
    replace hTr2 := hTr2.ext ho71
    refine ⟨hx75, ?_⟩
    refine tn rfl (fun _ hG => mvT rfl) ?_
    refine tn rfl (fun _ hG => y_ext rfl rfl) ?_
    refine tn rfl (fun _ hG => y_ext rfl rfl) ?_
    refine tn rfl (fun _ hG => y_ext rfl rfl) ?_
    refine tn rfl (fun _ hG => y_ext rfl rfl) ?_
    refine tn rfl (fun _ hG => asS rfl) ?_
    refine tn rfl (fun _ hG => asS rfl) ?_
    refine tn rfl (fun _ hG => asI rfl) ?_
    refine t_end ?_
    have hz77 := hx75.size
    replace hL0 := hL0.ext hx75
    replace hL1 := hL1.ext hx75
    replace hE := hE.step hx75 (.inl (Nat.le_refl _))
    replace hN := hN.ext hx75
    replace hb7 := hb7.ext hx75
    replace hX := hX.ext hx75
    replace hTr1 := hTr1.ext hx75
    replace hF1 := hF1.ext hx75
    replace hX1 := hX1.ext hx75
    refine st (asI rfl) ?_
    refine rg_end ?_
    refine n_then ?_
    refine wp_seq ?_
    refine rg ?_
    refine sc cl14 (law16_awake_ok _) rfl ?_
    rintro v82 w78 ⟨rfl, ho79⟩
    have hz83 := ho79.size
    replace hL0 := hL0.ext ho79
    replace hL1 := hL1.ext ho79
    replace hE := hE.step ho79 (.inl (Nat.le_refl _))
    replace hN := hN.ext ho79
    replace hb7 := hb7.ext ho79
    replace hX := hX.ext ho79
    replace hTr1 := hTr1.ext ho79
    replace hF1 := hF1.ext ho79
    replace hX1 := hX1.ext ho79
    replace hTr2 := hTr2.ext ho79
    replace hF2 := hF2.ext ho79
    replace hX2 := hX2.ext ho79
    refine st (mvB rfl) ?_
    refine stg rfl rfl rfl (mvI rfl) ?_
    refine stg rfl rfl rfl (y_eql rfl rfl) ?_
    refine st (y_pickT rfl rfl (v := .bool _) rfl) ?_
    refine st (mvB rfl) ?_
    refine stg rfl rfl (decide_eq_true rfl) (mvB rfl) ?_
    refine stg rfl rfl (decide_eq_true rfl) (y_not rfl) ?_
    refine st (y_pickT rfl (decide_eq_true rfl) (v := .bool _) rfl) ?_
    refine st (mvB rfl) ?_
    refine stg rfl rfl (congrArg Bool.not hend.1) (mvI rfl) ?_
    refine stg rfl rfl (congrArg Bool.not hend.1) (y_eql rfl rfl) ?_
    refine st (y_pickT rfl (congrArg Bool.not hend.1) (v := .bool _) rfl) ?_
    refine st (mvB rfl) ?_
    refine stg rfl rfl (decide_eq_true rfl) (mvI rfl) ?_
    refine stg rfl rfl (decide_eq_true rfl) (mvI rfl) ?_
    refine stg rfl rfl (decide_eq_true rfl) (y_eql rfl rfl) ?_
    refine st (y_pickT rfl (decide_eq_true rfl) (v := .bool _) rfl) ?_
    refine st (mvB rfl) ?_
    refine stg rfl rfl (decide_eq_true (by rw [hsame])) (mvS rfl) ?_
    refine stg rfl rfl (decide_eq_true (by rw [hsame])) (mvS rfl) ?_
    refine scg rfl rfl (decide_eq_true (by rw [hsame])) cl19 (keep_Same_int_ok (smF N (200 + pick B 100).toNat (trX N) x).1 (smF N (200 : Int).toNat (trX N) x).1 _ _ _ _ _ _ _ _ _ (Ow.sl hF2) (Ow.sl hF1) (by omega)) rfl ?_
    rintro v88 w84 ⟨rfl, ho85⟩
    have hz89 := ho85.size
    replace hL0 := hL0.ext ho85
    replace hL1 := hL1.ext ho85
    replace hE := hE.step ho85 (.inl (Nat.le_refl _))
    replace hN := hN.ext ho85
    replace hb7 := hb7.ext ho85
    replace hX := hX.ext ho85
    replace hTr1 := hTr1.ext ho85
    replace hF1 := hF1.ext ho85
    replace hX1 := hX1.ext ho85
    replace hTr2 := hTr2.ext ho85
    replace hF2 := hF2.ext ho85
    replace hX2 := hX2.ext ho85
    refine st (y_pickT rfl (decide_eq_true (by rw [hsame])) (v := .bool _) rfl) ?_
    refine st (mvB rfl) ?_
    refine stg rfl rfl (decide_eq_true (by rw [hsame])) (mvS rfl) ?_
    refine stg rfl rfl (decide_eq_true (by rw [hsame])) (mvS rfl) ?_
    refine scg rfl rfl (decide_eq_true (by rw [hsame])) cl19 (keep_Same_int_ok (smF N (200 + pick B 100).toNat (trX N) x).2.1 (smF N (200 : Int).toNat (trX N) x).2.1 _ _ _ _ _ _ _ _ _ (Ow.sl hX2) (Ow.sl hX1) (by omega)) rfl ?_
    rintro v94 w90 ⟨rfl, ho91⟩
    have hz95 := ho91.size
    replace hL0 := hL0.ext ho91
    replace hL1 := hL1.ext ho91
    replace hE := hE.step ho91 (.inl (Nat.le_refl _))
    replace hN := hN.ext ho91
    replace hb7 := hb7.ext ho91
    replace hX := hX.ext ho91
    replace hTr1 := hTr1.ext ho91
    replace hF1 := hF1.ext ho91
    replace hX1 := hX1.ext ho91
    replace hTr2 := hTr2.ext ho91
    replace hF2 := hF2.ext ho91
    replace hX2 := hX2.ext ho91
    refine st (y_pickT rfl (decide_eq_true (by rw [hsame])) (v := .bool _) rfl) ?_
    refine st (asB rfl) ?_
    refine rg_end ?_
    refine n_then ?_
    refine wp_ret ?_
    refine ret1 (v := (.bool _)) Try.results7 rfl ?_
    exact ⟨congrArg Value.bool (decide_eq_true (by rw [hsame])), hE⟩
end Go.Proofs.Ytgekfafangcggaa
