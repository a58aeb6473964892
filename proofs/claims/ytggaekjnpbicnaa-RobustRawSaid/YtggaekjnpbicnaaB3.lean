/-
  Walks of the functions, printed by a program out of the code and the loops' relations.
-/
import Derived.Test.YtggaekjnpbicnaaWkD
import Derived.Test.YtggaekjnpbicnaaProg
import Derived.KernelRfl
import Derived.Test.YtggaekjnpbicnaaB2
namespace Go.Proofs.Ytggaekjnpbicnaa
open Go.Wk Go.RowKit
set_option linter.unusedVariables false
set_option linter.unusedSimpArgs false
set_option maxHeartbeats 1000000 in
set_option maxRecDepth 100000 in
theorem law22_RobustDelaysAreLeast_ok (a0 : Option Addr) (c0 : Nat) (l0 : List Int) (a1 : Option Addr) (c1 : Nat) (l1 : List Int) (ev dl : Int) (w : World) (hL0 : Ints 0 w.heap.size w a0 l0) (hl0 : (l0.length : Int) ≤ 9223372036854775807) (hL1 : Ints 0 w.heap.size w a1 l1) (hl1 : (l1.length : Int) ≤ 9223372036854775807)  : Cal Try.prog 6 [.slice a0 l0.length c0, .slice a1 l1.length c1, .int .i64 ev, .int .i64 dl] w (fun v w' => v = .bool true ∧ Ext w w') := by
  have hE : Out 0 0 w w := Out.refl _ _ w
  refine enter Try.func6 rfl Try.ntmps6 rfl ?_
  refine wp_seq ?_
  refine rg ?_
  refine st (asB rfl) ?_
  refine rg_end ?_
  refine n_then ?_
  refine wp_seq ?_
  refine rg ?_
  refine st (mvS rfl) ?_
  refine sc cl11 (law22_wide_ok _ _ _ _ _ _ hL0 hl0) rfl ?_
  rintro v5 w1 ⟨N, A, rfl, hwd, hN, ho2⟩
  obtain ⟨hok, hp2, hp9, hev1, hev5, hac8, hmnn⟩ := hwd.1
  have hz6 := ho2.size
  replace hL0 := hL0.ext ho2
  replace hL1 := hL1.ext ho2
  replace hE := hE.step ho2 (.inl (Nat.le_refl _))
  refine sd (d_allocA zer26 ?_)
  intro bl10 w7 hbbl10 hs9 ho8 hbl10
  have hz11 := ho8.size
  replace hL0 := hL0.ext ho8
  replace hL1 := hL1.ext ho8
  replace hE := hE.step ho8 (.inl (Nat.le_refl _))
  replace hN := hN.ext ho8
  refine sd0 (d_stN hbl10 rfl rfl sz26 rfl rfl ?_)
  intro w12 hs14 ho13 hbl10'
  clear hbl10; have hbl10 := hbl10'; clear hbl10'
  have hz15 := ho13.size
  replace hL0 := hL0.out ho13 (by first | omega | (simp only [blk_some, hi1_some] at *; omega))
  replace hL1 := hL1.out ho13 (by first | omega | (simp only [blk_some, hi1_some] at *; omega))
  replace hE := hE.step ho13 (by first | omega | (simp only [blk_some, hi1_some] at *; omega))
  replace hN := hN.out ho13 (by first | omega | (simp only [blk_some, hi1_some] at *; omega))
  refine rg_end ?_
  refine n_then ?_
  refine wp_seq ?_
  refine rg ?_
  refine st (y_lbN hbl10 agg26 rfl) ?_
  refine st (mvS rfl) ?_
  refine sc cl12 (keep_Times_ok N A _ _ _ _ _ _ _ _ hN hL1 hl1 (by omega) (by omega)) rfl ?_
  rintro v20 w16 ⟨ax, cx, x, rfl, hT, hxl, hxr, ho17⟩
  obtain ⟨hg, hfe⟩ := wide_feas hwd hxl hxr
  have hz21 := ho17.size
  replace hL0 := hL0.ext ho17
  replace hL1 := hL1.ext ho17
  replace hE := hE.step ho17 (.inl (Nat.le_refl _))
  replace hN := hN.ext ho17
  replace hbl10 := hbl10.ext ho17
  refine st (asS rfl) ?_
  refine rg_end ?_
  refine n_then ?_
  refine wp_seq ?_
  have hev := pick_rng ev N.evs.length (by omega)
  have hdl := pick_rng dl 60 (by omega)
  refine rg ?_
  refine st (mvI rfl) ?_
  refine st (y_fld fld26_1 rfl) ?_
  refine st (y_lb hbl10 na23 rfl rfl) ?_
  refine st (y_len Try.underlying23 rfl) ?_
  refine sc cl13 (keep_Pick_ok _ _ _ (by omega) (by omega)) rfl ?_
  rintro v26 w22 ⟨rfl, ho23⟩
  have hz27 := ho23.size
  replace hL0 := hL0.ext ho23
  replace hL1 := hL1.ext ho23
  replace hE := hE.step ho23 (.inl (Nat.le_refl _))
  replace hN := hN.ext ho23
  replace hbl10 := hbl10.ext ho23
  replace hT := hT.ext ho23
  refine st (mvI rfl) ?_
  refine sc cl13 (keep_Pick_ok _ _ _ (by omega) (by omega)) rfl ?_
  rintro v32 w28 ⟨rfl, ho29⟩
  have hz33 := ho29.size
  replace hL0 := hL0.ext ho29
  replace hL1 := hL1.ext ho29
  replace hE := hE.step ho29 (.inl (Nat.le_refl _))
  replace hN := hN.ext ho29
  replace hbl10 := hbl10.ext ho29
  replace hT := hT.ext ho29
  refine st (asI rfl) ?_
  refine st (asI rfl) ?_
  refine rg_end ?_
  refine n_then ?_
  refine wp_seq ?_
  refine rg ?_
  refine st (y_lbN hbl10 agg26 rfl) ?_
  refine st (mvS rfl) ?_
  refine st (mvI rfl) ?_
  refine st (mvI rfl) ?_
  refine sc cl17 (robust_Spread_ok N A _ _ x _ _ _ _ _ _ _ hN hT) rfl ?_
  rintro v38 w34 ⟨ady, cy, y, e, rfl, hy, hSy, ho35⟩
  replace hy := hy.get hfe (by omega)
  obtain rfl := hy.e0
  have hyl := hy.len
  have hz39 := ho35.size
  replace hL0 := hL0.ext ho35
  replace hL1 := hL1.ext ho35
  replace hE := hE.step ho35 (.inl (Nat.le_refl _))
  replace hN := hN.ext ho35
  replace hbl10 := hbl10.ext ho35
  replace hT := hT.ext ho35
  refine st (mvT rfl) ?_
  refine st (y_ext rfl rfl) ?_
  refine st (y_ext rfl rfl) ?_
  refine st (asS rfl) ?_
  refine st (asI rfl) ?_
  refine rg_end ?_
  refine n_then ?_
  refine wp_seq ?_
  refine wp_seq ?_
  refine rg ?_
  refine st (mvI rfl) ?_
  refine st (y_neq rfl rfl) ?_
  refine st (mvB rfl) ?_
  refine stg rfl rfl rfl (mvS rfl) ?_
  refine stg rfl rfl rfl (y_len Try.underlying22 rfl) ?_
  refine stg rfl rfl rfl (y_fld fld26_1 rfl) ?_
  refine stg rfl rfl rfl (y_lb hbl10 na23 rfl rfl) ?_
  refine stg rfl rfl rfl (y_len Try.underlying23 rfl) ?_
  refine stg rfl rfl rfl (y_neq rfl rfl) ?_
  refine st (y_pickF rfl rfl (v := .bool _) rfl) ?_
  refine rg_end ?_
  refine n_then ?_
  refine cnd rfl (fun hc0 => ?_) (fun hc0 => ?_)
  ·
    try simp only [decide_eq_true_eq, decide_eq_false_iff_not, Bool.not_eq_true', Bool.not_eq_false', Bool.and_eq_true, Bool.or_eq_true, Bool.or_eq_false_iff, Bool.cond_true_right, Bool.cond_false_right, Bool.cond_true_left, Bool.cond_false_left, ne_eq, Decidable.not_not, bne_iff_ne, beq_iff_eq, beq_eq_false_iff_ne, Bool.not_true, Bool.not_false] at hc0
    exfalso; omega
  ·
    try simp only [decide_eq_true_eq, decide_eq_false_iff_not, Bool.not_eq_true', Bool.not_eq_false', Bool.and_eq_true, Bool.or_eq_true, Bool.or_eq_false_iff, Bool.cond_true_right, Bool.cond_false_right, Bool.cond_true_left, Bool.cond_false_left, ne_eq, Decidable.not_not, bne_iff_ne, beq_iff_eq, beq_eq_false_iff_ne, Bool.not_true, Bool.not_false] at hc0
    refine wp_skip ?_
    refine n_then ?_
    refine wp_seq ?_
    refine wp_seq ?_
    refine rg ?_
    refine st (mvS rfl) ?_
    refine st (y_len Try.underlying22 rfl) ?_
    refine st (mvI rfl) ?_
    refine rg_end ?_
    refine n_then ?_
    refine wp_block ?_
    refine lp (γ := Nat) [8, 13, 14, 15, 16, 49, 50, 51, 52, 53, 54, 55, 56, 57, 58, 59, 60, 61, 62, 63, 64, 65, 66, 67, 68, 69, 70, 71, 72, 73, 74, 75, 76, 77, 78, 79, 80, 81, 82, 83, 84, 85, 86, 87, 88, 89, 90, 91, 92, 93, 94, 95, 96, 97, 98, 99, 100, 101, 102, 103, 104, 105, 106, 107, 108] (fun k => [(49, .int .i64 (k : Int))]) (fun k w_ => Ext w34 w_ ∧ (k : Int) ≤ y.length) (fun k => y.length - k) 0 ⟨rfl, trivial⟩ ⟨Out.refl _ _ _, by omega⟩ ?_
    rintro k hav_ w40 ⟨ho41, hk⟩
    have hlp0 := ho41
    have hz42 := ho41.size
    replace hL0 := hL0.ext ho41
    replace hL1 := hL1.ext ho41
    replace hE := hE.step ho41 (.inl (Nat.le_refl _))
    replace hN := hN.ext ho41
    replace hbl10 := hbl10.ext ho41
    replace hT := hT.ext ho41
    replace hSy := hSy.ext ho41
    refine wp_seq ?_
    refine rg ?_
    refine st (y_lss rfl rfl) ?_
    refine rg_end ?_
    refine n_then ?_
    refine wp_seq ?_
    refine cnd rfl (fun hc1 => ?_) (fun hc1 => ?_)
    ·
      try simp only [decide_eq_true_eq, decide_eq_false_iff_not, Bool.not_eq_true', Bool.not_eq_false', Bool.and_eq_true, Bool.or_eq_true, Bool.or_eq_false_iff, Bool.cond_true_right, Bool.cond_false_right, Bool.cond_true_left, Bool.cond_false_left, ne_eq, Decidable.not_not, bne_iff_ne, beq_iff_eq, beq_eq_false_iff_ne, Bool.not_true, Bool.not_false] at hc1
      refine wp_skip ?_
      refine n_then ?_
      refine wp_seq ?_
      refine wp_block ?_
      refine wp_seq ?_
      refine rg ?_
      refine st (mvI rfl) ?_
      refine st (asI rfl) ?_
      refine rg_end ?_
      refine n_then ?_
      refine cut (γ := Unit) [14, 52, 53, 54, 55, 56, 57, 58, 59, 60, 61] (fun _ => [(14, .bool (decide ((k : Int) = pick ev N.evs.length ∨ el y k = 0)))]) (fun _ w_ => Ext w40 w_ ∧ True) ?_ ?_
      ·
        have hcut := Out.refl 0 0 w40
        refine rg ?_
        refine st (mvI rfl) ?_
        refine st (mvI rfl) ?_
        refine st (y_eql rfl rfl) ?_
        refine st (mvB rfl) ?_
        refine gspL 55 rfl (fun hg43 => ?_) (fun hg43 => ?_)
        ·
          have hg43n := hg43; try simp only [decide_eq_true_eq, decide_eq_false_iff_not, Bool.not_eq_true', Bool.not_eq_false', Bool.and_eq_true, Bool.or_eq_true, Bool.or_eq_false_iff, Bool.cond_true_right, Bool.cond_false_right, Bool.cond_true_left, Bool.cond_false_left, ne_eq, Decidable.not_not, bne_iff_ne, beq_iff_eq, beq_eq_false_iff_ne, Bool.not_true, Bool.not_false] at hg43n
          refine sts rfl rfl hg43 ?_
          refine sts rfl rfl hg43 ?_
          refine sts rfl rfl hg43 ?_
          refine sts rfl rfl hg43 ?_
          refine sts rfl rfl hg43 ?_
          refine st (y_pickT rfl hg43 (v := .bool _) rfl) ?_
          refine st (asB rfl) ?_
          refine rg_end ?_
          exact n_then ⟨(), _, rfl, same_lk rfl (same_rfl), ⟨vb (by simp_all), trivial⟩, ⟨hcut, trivial⟩⟩
        ·
          have hg43n := hg43; try simp only [decide_eq_true_eq, decide_eq_false_iff_not, Bool.not_eq_true', Bool.not_eq_false', Bool.and_eq_true, Bool.or_eq_true, Bool.or_eq_false_iff, Bool.cond_true_right, Bool.cond_false_right, Bool.cond_true_left, Bool.cond_false_left, ne_eq, Decidable.not_not, bne_iff_ne, beq_iff_eq, beq_eq_false_iff_ne, Bool.not_true, Bool.not_false] at hg43n
          refine stg rfl rfl hg43 (mvS rfl) ?_
          refine stg rfl rfl hg43 (mvI rfl) ?_
          refine stg rfl rfl hg43 (y_ix hSy sl22 rfl (rfl) rfl (by omega) (by omega)) ?_
          refine stg rfl rfl hg43 (y_le hSy na3 rfl (by omega) (by omega) rfl) ?_
          refine stg rfl rfl hg43 (y_eql rfl rfl) ?_
          refine st (y_pickF rfl hg43 (v := .bool _) rfl) ?_
          refine st (asB rfl) ?_
          refine rg_end ?_
          exact n_then ⟨(), _, rfl, same_lk rfl (same_rfl), ⟨vb (by simp_all), trivial⟩, ⟨hcut, trivial⟩⟩
      ·
        rintro _ hav_ w44 ⟨ho45, _⟩
        have hz46 := ho45.size
        replace hL0 := hL0.ext ho45
        replace hL1 := hL1.ext ho45
        replace hE := hE.step ho45 (.inl (Nat.le_refl _))
        replace hN := hN.ext ho45
        replace hbl10 := hbl10.ext ho45
        replace hT := hT.ext ho45
        replace hSy := hSy.ext ho45
        replace hlp0 := hlp0.step ho45 (.inl (Nat.le_refl _))
        refine wp_seq ?_
        refine wp_seq ?_
        refine rg ?_
        refine st (y_fld fld26_2 rfl) ?_
        refine st (y_lb hbl10 na24 rfl rfl) ?_
        refine st (y_len Try.underlying24 rfl) ?_
        refine st (mvI rfl) ?_
        refine rg_end ?_
        refine n_then ?_
        refine wp_block ?_
        refine lp (γ := Nat) [14, 15, 16, 65, 66, 67, 68, 69, 70, 71, 72, 73, 74, 75, 76, 77, 78, 79, 80, 81, 82, 83, 84, 85, 86, 87, 88, 89, 90, 91, 92, 93, 94, 95, 96, 97, 98, 99, 100, 101, 102, 103, 104, 105] (fun i => [(65, .int .i64 (i : Int)), (14, .bool ((N.acts.take i).any (causeB N x y k) || decide ((k : Int) = pick ev N.evs.length ∨ el y k = 0)))]) (fun i w_ => Ext w44 w_ ∧ (i : Int) ≤ N.acts.length) (fun i => N.acts.length - i) 0 ⟨rfl, rfl, trivial⟩ ⟨Out.refl _ _ _, by omega⟩ ?_
        rintro i hav_ w47 ⟨ho48, hi⟩
        have hlp1 := ho48
        have hz49 := ho48.size
        replace hL0 := hL0.ext ho48
        replace hL1 := hL1.ext ho48
        replace hE := hE.step ho48 (.inl (Nat.le_refl _))
        replace hN := hN.ext ho48
        replace hbl10 := hbl10.ext ho48
        replace hT := hT.ext ho48
        replace hSy := hSy.ext ho48
        replace hlp0 := hlp0.step ho48 (.inl (Nat.le_refl _))
        refine wp_seq ?_
        refine rg ?_
        refine st (y_lss rfl rfl) ?_
        refine rg_end ?_
        refine n_then ?_
        refine wp_seq ?_
        refine cnd rfl (fun hc2 => ?_) (fun hc2 => ?_)
        ·
          try simp only [decide_eq_true_eq, decide_eq_false_iff_not, Bool.not_eq_true', Bool.not_eq_false', Bool.and_eq_true, Bool.or_eq_true, Bool.or_eq_false_iff, Bool.cond_true_right, Bool.cond_false_right, Bool.cond_true_left, Bool.cond_false_left, ne_eq, Decidable.not_not, bne_iff_ne, beq_iff_eq, beq_eq_false_iff_ne, Bool.not_true, Bool.not_false] at hc2
          have ham := el_mem (l := N.acts) (i := i) (by omega) hc2
          obtain ⟨f0, f1, t0, t1, hne, hm0, hm1, hm2, hm3, _, _⟩ := hok.acs _ ham
          have hs := slack_rng (N := N) (t := x) (a := el N.acts i) (by omega)
          have hr1 := hy.rng hdl.1 hev.1 hev.2 f0 f1
          refine wp_skip ?_
          refine n_then ?_
          refine wp_seq ?_
          refine wp_block ?_
          refine wp_seq ?_
          refine rg ?_
          refine st (mvI rfl) ?_
          refine st (asI rfl) ?_
          refine rg_end ?_
          refine n_then ?_
          refine wp_seq ?_
          refine rg ?_
          refine st (y_fld fld26_2 rfl) ?_
          refine st (y_lb hbl10 na24 rfl rfl) ?_
          refine st (mvI rfl) ?_
          refine st (y_ix hN.a sl24 rfl (rfl) rfl (by omega) (by omega)) ?_
          refine st (y_lw hN.a agg40 rfl (by omega) (by omega)) ?_
          refine sd (d_allocA zer40 ?_)
          intro bl53 w50 hbbl53 hs52 ho51 hbl53
          have hz54 := ho51.size
          replace hL0 := hL0.ext ho51
          replace hL1 := hL1.ext ho51
          replace hE := hE.step ho51 (.inl (Nat.le_refl _))
          replace hN := hN.ext ho51
          replace hbl10 := hbl10.ext ho51
          replace hT := hT.ext ho51
          replace hSy := hSy.ext ho51
          replace hlp0 := hlp0.step ho51 (.inl (Nat.le_refl _))
          replace hlp1 := hlp1.step ho51 (.inl (Nat.le_refl _))
          refine sd0 (d_stN hbl53 rfl rfl sz40 rfl rfl ?_)
          intro w55 hs57 ho56 hbl53'
          clear hbl53; have hbl53 := hbl53'; clear hbl53'
          have hz58 := ho56.size
          replace hL0 := hL0.out ho56 (by first | omega | (simp only [blk_some, hi1_some] at *; omega))
          replace hL1 := hL1.out ho56 (by first | omega | (simp only [blk_some, hi1_some] at *; omega))
          replace hE := hE.step ho56 (by first | omega | (simp only [blk_some, hi1_some] at *; omega))
          replace hN := hN.out ho56 (by first | omega | (simp only [blk_some, hi1_some] at *; omega))
          replace hbl10 := hbl10.out ho56 (by first | omega | (simp only [blk_some, hi1_some] at *; omega))
          replace hT := hT.out ho56 (by first | omega | (simp only [blk_some, hi1_some] at *; omega))
          replace hSy := hSy.out ho56 (by first | omega | (simp only [blk_some, hi1_some] at *; omega))
          replace hlp0 := hlp0.step ho56 (by first | omega | (simp only [blk_some, hi1_some] at *; omega))
          replace hlp1 := hlp1.step ho56 (by first | omega | (simp only [blk_some, hi1_some] at *; omega))
          refine rg_end ?_
          refine n_then ?_
          refine rgD 29 (fun w_ => Ext w55 w_) (fun i => Nat.beq i 24) mixed (by kernel_rfl) ?_
          intro w59 ho60 hs61
          refine ⟨ho60, ?_⟩
          have hx62 := ho60
          refine tn rfl (fun _ hG => mvB rfl) ?_
          refine tn rfl (fun _ hG => mvB rfl) ?_
          refine gspT 74 rfl (fun hg63 => ?_) (fun hg63 => ?_)
          ·
            have hg63n := hg63; try simp only [decide_eq_true_eq, decide_eq_false_iff_not, Bool.not_eq_true', Bool.not_eq_false', Bool.and_eq_true, Bool.or_eq_true, Bool.or_eq_false_iff, Bool.cond_true_right, Bool.cond_false_right, Bool.cond_true_left, Bool.cond_false_left, ne_eq, Decidable.not_not, bne_iff_ne, beq_iff_eq, beq_eq_false_iff_ne, Bool.not_true, Bool.not_false] at hg63n
            refine tns rfl rfl hg63 ?_
            refine tns rfl rfl hg63 ?_
            refine tns rfl rfl hg63 ?_
            refine tns rfl rfl hg63 ?_
            refine tnu rfl rfl ?_
            refine tnu rfl rfl ?_
            refine tnu rfl rfl ?_
            refine tnu rfl rfl ?_
            refine tns rfl rfl hg63 ?_
            refine tns rfl rfl hg63 ?_
            refine tnu rfl rfl ?_
            refine tnu rfl rfl ?_
            refine tnu rfl rfl ?_
            refine tnu rfl rfl ?_
            refine tnu rfl rfl ?_
            refine tnu rfl rfl ?_
            refine tnu rfl rfl ?_
            refine tnu rfl rfl ?_
            refine tnu rfl rfl ?_
            refine tnu rfl rfl ?_
            refine tnu rfl rfl ?_
            refine tnu rfl rfl ?_
            refine tnu rfl rfl ?_
            refine tnu rfl rfl ?_
            refine tnu rfl rfl ?_
            refine tnu rfl rfl ?_
            refine tnu rfl rfl ?_
            refine t_end ?_
            have hz64 := hx62.size
            replace hL0 := hL0.ext hx62
            replace hL1 := hL1.ext hx62
            replace hE := hE.step hx62 (.inl (Nat.le_refl _))
            replace hN := hN.ext hx62
            replace hbl10 := hbl10.ext hx62
            replace hT := hT.ext hx62
            replace hSy := hSy.ext hx62
            replace hlp0 := hlp0.step hx62 (.inl (Nat.le_refl _))
            replace hlp1 := hlp1.step hx62 (.inl (Nat.le_refl _))
            replace hbl53 := hbl53.ext hx62
            refine stu rfl rfl ?_
            refine sts rfl rfl hg63 ?_
            refine st (y_pickT rfl hg63 (v := .bool _) rfl) ?_
            refine st (asB rfl) ?_
            refine rg_end ?_
            refine n_blk ?_
            refine n_then ?_
            refine rg ?_
            refine st (y_add rfl rfl (by omega)) ?_
            refine st (mvI rfl) ?_
            refine rg_end ?_
            exact n_then ⟨i + 1, _, rfl, same_lk rfl (same_h0), ⟨rfl, vb (by rw [take_any_succ hc2]; cases hz : (N.acts.take i).any (causeB N x y k) <;> simp only [hz] at * <;> clear hz <;> (simp only [causeB]; simp_all)), trivial⟩, ⟨hlp1, by omega⟩, by first | omega | (dsimp only; omega)⟩
          ·
            have hg63n := hg63; try simp only [decide_eq_true_eq, decide_eq_false_iff_not, Bool.not_eq_true', Bool.not_eq_false', Bool.and_eq_true, Bool.or_eq_true, Bool.or_eq_false_iff, Bool.cond_true_right, Bool.cond_false_right, Bool.cond_true_left, Bool.cond_false_left, ne_eq, Decidable.not_not, bne_iff_ne, beq_iff_eq, beq_eq_false_iff_ne, Bool.not_true, Bool.not_false] at hg63n
            refine tng rfl rfl rfl hg63 (fun _ hG => y_fld fld40_0 rfl) ?_
            refine tng rfl rfl rfl hg63 (fun _ hG => y_lb (hbl53.ext hG) na3 rfl rfl) ?_
            refine tng rfl rfl rfl hg63 (fun _ hG => y_neq rfl rfl) ?_
            refine tng rfl rfl rfl hg63 (fun _ hG => mvB rfl) ?_
            refine gspT 78 rfl (fun hg65 => ?_) (fun hg65 => ?_)
            ·
              have hg65n := hg65; try simp only [decide_eq_true_eq, decide_eq_false_iff_not, Bool.not_eq_true', Bool.not_eq_false', Bool.and_eq_true, Bool.or_eq_true, Bool.or_eq_false_iff, Bool.cond_true_right, Bool.cond_false_right, Bool.cond_true_left, Bool.cond_false_left, ne_eq, Decidable.not_not, bne_iff_ne, beq_iff_eq, beq_eq_false_iff_ne, Bool.not_true, Bool.not_false] at hg65n
              refine tng rfl rfl rfl hg65 (fun _ hG => y_fld fld40_2 rfl) ?_
              refine tng rfl rfl rfl hg65 (fun _ hG => y_lb (hbl53.ext hG) na3 rfl rfl) ?_
              refine tng rfl rfl rfl hg65 (fun _ hG => mvI rfl) ?_
              refine tng rfl rfl rfl hg65 (fun _ hG => y_eql rfl rfl) ?_
              refine tng rfl rfl rfl hg63 (fun _ hG => y_pickT rfl hg65 (v := .bool _) rfl) ?_
              refine tng rfl rfl rfl hg63 (fun _ hG => mvB rfl) ?_
              refine gspT 84 rfl (fun hg66 => ?_) (fun hg66 => ?_)
              ·
                have hg66n := hg66; try simp only [decide_eq_true_eq, decide_eq_false_iff_not, Bool.not_eq_true', Bool.not_eq_false', Bool.and_eq_true, Bool.or_eq_true, Bool.or_eq_false_iff, Bool.cond_true_right, Bool.cond_false_right, Bool.cond_true_left, Bool.cond_false_left, ne_eq, Decidable.not_not, bne_iff_ne, beq_iff_eq, beq_eq_false_iff_ne, Bool.not_true, Bool.not_false] at hg66n
                refine tng rfl rfl rfl hg66 (fun _ hG => mvS rfl) ?_
                refine tng rfl rfl rfl hg66 (fun _ hG => mvI rfl) ?_
                refine tng rfl rfl rfl hg66 (fun _ hG => y_ix (hSy.ext hG) sl22 rfl (rfl) rfl (by omega) (by omega)) ?_
                refine tng rfl rfl rfl hg66 (fun _ hG => y_le (hSy.ext hG) na3 rfl (by omega) (by omega) rfl) ?_
                refine tng rfl rfl rfl hg66 (fun _ hG => mvS rfl) ?_
                refine tng rfl rfl rfl hg66 (fun _ hG => y_fld fld40_1 rfl) ?_
                refine tng rfl rfl rfl hg66 (fun _ hG => y_lb (hbl53.ext hG) na3 rfl rfl) ?_
                refine tng rfl rfl rfl hg66 (fun _ hG => y_ix (hSy.ext hG) sl22 rfl (rfl) rfl (by omega) (by omega)) ?_
                refine tng rfl rfl rfl hg66 (fun _ hG => y_le (hSy.ext hG) na3 rfl (by omega) (by omega) rfl) ?_
                refine tng rfl rfl rfl hg66 (fun _ hG => y_lbN (hbl10.ext hG) agg26 rfl) ?_
                refine tng rfl rfl rfl hg66 (fun _ hG => mvS rfl) ?_
                refine tng rfl rfl rfl hg66 (fun _ hG => mvI rfl) ?_
                refine tcg rfl rfl rfl hg66 cl18 (ref11_Duration_ok N A _ _ x _ _ _ _ _ _ (hN.ext hx62) (hT.ext hx62)) rfl ?_
                rintro v71 w67 ⟨du, rfl, hdu, ho68⟩
                rw [if_pos (show _ from ⟨goodT_iff.2 hg, by omega, by omega⟩)] at hdu
                rw [show durA N x (el N.acts i) = (el N.acts i).mn + slackA N x (el N.acts i) from rfl] at hdu
                have hds : du - (el N.acts i).mn = slackA N x (el N.acts i) := by omega
                have hx72 := hx62.step ho68 (.inl (Nat.le_refl _))
                have hz73 := ho68.size
                refine ⟨hx72, ?_⟩
                refine tng rfl rfl rfl hg66 (fun _ hG => y_fld fld40_3 rfl) ?_
                refine tng rfl rfl rfl hg66 (fun _ hG => y_lb (hbl53.ext hG) na3 rfl rfl) ?_
                refine tng rfl rfl rfl hg66 (fun _ hG => y_sub rfl rfl (by omega)) ?_
                refine tng rfl rfl rfl hg66 (fun _ hG => y_sub rfl rfl (by omega)) ?_
                refine t_end ?_
                have hz74 := hx72.size
                replace hL0 := hL0.ext hx72
                replace hL1 := hL1.ext hx72
                replace hE := hE.step hx72 (.inl (Nat.le_refl _))
                replace hN := hN.ext hx72
                replace hbl10 := hbl10.ext hx72
                replace hT := hT.ext hx72
                replace hSy := hSy.ext hx72
                replace hlp0 := hlp0.step hx72 (.inl (Nat.le_refl _))
                replace hlp1 := hlp1.step hx72 (.inl (Nat.le_refl _))
                replace hbl53 := hbl53.ext hx72
                refine stg rfl rfl hg66 (y_eql rfl rfl) ?_
                refine stg rfl rfl hg63 (y_pickT rfl hg66 (v := .bool _) rfl) ?_
                refine st (y_pickF rfl hg63 (v := .bool _) rfl) ?_
                refine st (asB rfl) ?_
                refine rg_end ?_
                refine n_blk ?_
                refine n_then ?_
                refine rg ?_
                refine st (y_add rfl rfl (by omega)) ?_
                refine st (mvI rfl) ?_
                refine rg_end ?_
                exact n_then ⟨i + 1, _, rfl, same_lk rfl (same_h0), ⟨rfl, vb (by rw [take_any_succ hc2]; cases hz : (N.acts.take i).any (causeB N x y k) <;> simp only [hz] at * <;> clear hz <;> (simp only [causeB]; simp_all)), trivial⟩, ⟨hlp1, by omega⟩, by first | omega | (dsimp only; omega)⟩
              ·
                have hg66n := hg66; try simp only [decide_eq_true_eq, decide_eq_false_iff_not, Bool.not_eq_true', Bool.not_eq_false', Bool.and_eq_true, Bool.or_eq_true, Bool.or_eq_false_iff, Bool.cond_true_right, Bool.cond_false_right, Bool.cond_true_left, Bool.cond_false_left, ne_eq, Decidable.not_not, bne_iff_ne, beq_iff_eq, beq_eq_false_iff_ne, Bool.not_true, Bool.not_false] at hg66n
                refine tns rfl rfl hg66 ?_
                refine tns rfl rfl hg66 ?_
                refine tns rfl rfl hg66 ?_
                refine tns rfl rfl hg66 ?_
                refine tns rfl rfl hg66 ?_
                refine tns rfl rfl hg66 ?_
                refine tns rfl rfl hg66 ?_
                refine tns rfl rfl hg66 ?_
                refine tns rfl rfl hg66 ?_
                refine tns rfl rfl hg66 ?_
                refine tns rfl rfl hg66 ?_
                refine tns rfl rfl hg66 ?_
                refine tns rfl rfl hg66 ?_
                refine tns rfl rfl hg66 ?_
                refine tns rfl rfl hg66 ?_
                refine tns rfl rfl hg66 ?_
                refine tns rfl rfl hg66 ?_
                refine t_end ?_
                have hz75 := hx62.size
                replace hL0 := hL0.ext hx62
                replace hL1 := hL1.ext hx62
                replace hE := hE.step hx62 (.inl (Nat.le_refl _))
                replace hN := hN.ext hx62
                replace hbl10 := hbl10.ext hx62
                replace hT := hT.ext hx62
                replace hSy := hSy.ext hx62
                replace hlp0 := hlp0.step hx62 (.inl (Nat.le_refl _))
                replace hlp1 := hlp1.step hx62 (.inl (Nat.le_refl _))
                replace hbl53 := hbl53.ext hx62
                refine sts rfl rfl hg66 ?_
                refine stg rfl rfl hg63 (y_pickF rfl hg66 (v := .bool _) rfl) ?_
                refine st (y_pickF rfl hg63 (v := .bool _) rfl) ?_
                refine st (asB rfl) ?_
                refine rg_end ?_
                refine n_blk ?_
                refine n_then ?_
                refine rg ?_
                refine st (y_add rfl rfl (by omega)) ?_
                refine st (mvI rfl) ?_
                refine rg_end ?_
                exact n_then ⟨i + 1, _, rfl, same_lk rfl (same_h0), ⟨rfl, vb (by rw [take_any_succ hc2]; cases hz : (N.acts.take i).any (causeB N x y k) <;> simp only [hz] at * <;> clear hz <;> (simp only [causeB]; simp_all)), trivial⟩, ⟨hlp1, by omega⟩, by first | omega | (dsimp only; omega)⟩
            ·
              have hg65n := hg65; try simp only [decide_eq_true_eq, decide_eq_false_iff_not, Bool.not_eq_true', Bool.not_eq_false', Bool.and_eq_true, Bool.or_eq_true, Bool.or_eq_false_iff, Bool.cond_true_right, Bool.cond_false_right, Bool.cond_true_left, Bool.cond_false_left, ne_eq, Decidable.not_not, bne_iff_ne, beq_iff_eq, beq_eq_false_iff_ne, Bool.not_true, Bool.not_false] at hg65n
              refine tns rfl rfl hg65 ?_
              refine tns rfl rfl hg65 ?_
              refine tns rfl rfl hg65 ?_
              refine tns rfl rfl hg65 ?_
              refine tng rfl rfl rfl hg63 (fun _ hG => y_pickF rfl hg65 (v := .bool _) rfl) ?_
              refine tng rfl rfl rfl hg63 (fun _ hG => mvB rfl) ?_
              refine tns rfl rfl rfl ?_
              refine tns rfl rfl rfl ?_
              refine tns rfl rfl rfl ?_
              refine tns rfl rfl rfl ?_
              refine tns rfl rfl rfl ?_
              refine tns rfl rfl rfl ?_
              refine tns rfl rfl rfl ?_
              refine tns rfl rfl rfl ?_
              refine tns rfl rfl rfl ?_
              refine tns rfl rfl rfl ?_
              refine tns rfl rfl rfl ?_
              refine tns rfl rfl rfl ?_
              refine tns rfl rfl rfl ?_
              refine tns rfl rfl rfl ?_
              refine tns rfl rfl rfl ?_
              refine tns rfl rfl rfl ?_
              refine tns rfl rfl rfl ?_
              refine t_end ?_
              have hz76 := hx62.size
              replace hL0 := hL0.ext hx62
              replace hL1 := hL1.ext hx62
              replace hE := hE.step hx62 (.inl (Nat.le_refl _))
              replace hN := hN.ext hx62
              replace hbl10 := hbl10.ext hx62
              replace hT := hT.ext hx62
              replace hSy := hSy.ext hx62
              replace hlp0 := hlp0.step hx62 (.inl (Nat.le_refl _))
              replace hlp1 := hlp1.step hx62 (.inl (Nat.le_refl _))
              replace hbl53 := hbl53.ext hx62
              refine sts rfl rfl rfl ?_
              refine stg rfl rfl hg63 (y_pickF rfl rfl (v := .bool _) rfl) ?_
              refine st (y_pickF rfl hg63 (v := .bool _) rfl) ?_
              refine st (asB rfl) ?_
              refine rg_end ?_
              refine n_blk ?_
              refine n_then ?_
              refine rg ?_
              refine st (y_add rfl rfl (by omega)) ?_
              refine st (mvI rfl) ?_
              refine rg_end ?_
              exact n_then ⟨i + 1, _, rfl, same_lk rfl (same_h0), ⟨rfl, vb (by rw [take_any_succ hc2]; cases hz : (N.acts.take i).any (causeB N x y k) <;> simp only [hz] at * <;> clear hz <;> (simp only [causeB]; simp_all)), trivial⟩, ⟨hlp1, by omega⟩, by first | omega | (dsimp only; omega)⟩
        ·
          try simp only [decide_eq_true_eq, decide_eq_false_iff_not, Bool.not_eq_true', Bool.not_eq_false', Bool.and_eq_true, Bool.or_eq_true, Bool.or_eq_false_iff, Bool.cond_true_right, Bool.cond_false_right, Bool.cond_true_left, Bool.cond_false_left, ne_eq, Decidable.not_not, bne_iff_ne, beq_iff_eq, beq_eq_false_iff_ne, Bool.not_true, Bool.not_false] at hc2
          refine wp_exit ?_
          refine e_then (e_then (e_blk (?_)))
          refine n_then ?_
          refine wp_seq ?_
          refine rg ?_
          refine st (mvB rfl) ?_
          refine st (y_not rfl) ?_
          refine rg_end ?_
          refine n_then ?_
          refine cnd rfl (fun hc3 => ?_) (fun hc3 => ?_)
          ·
            exfalso
            rw [any_take_len hc2] at hc3
            by_cases q1 : (k : Int) = pick ev N.evs.length
            · simp [q1] at hc3
            · by_cases q2 : el y k = 0
              · simp [q2] at hc3
              · have := hy.cause hok hdl.1 hev.1 hev.2 (k := k) (by omega) (by omega) q1 q2
                simp [this] at hc3
          ·
            refine wp_skip ?_
            refine n_blk ?_
            refine n_then ?_
            refine rg ?_
            refine st (y_add rfl rfl (by omega)) ?_
            refine st (mvI rfl) ?_
            refine rg_end ?_
            exact n_then ⟨k + 1, _, rfl, same_lk rfl (same_hav rfl (same_lk rfl (same_hav rfl (same_lk rfl (same_h0))))), ⟨rfl, trivial⟩, ⟨hlp0, by omega⟩, by first | omega | (dsimp only; omega)⟩
    ·
      try simp only [decide_eq_true_eq, decide_eq_false_iff_not, Bool.not_eq_true', Bool.not_eq_false', Bool.and_eq_true, Bool.or_eq_true, Bool.or_eq_false_iff, Bool.cond_true_right, Bool.cond_false_right, Bool.cond_true_left, Bool.cond_false_left, ne_eq, Decidable.not_not, bne_iff_ne, beq_iff_eq, beq_eq_false_iff_ne, Bool.not_true, Bool.not_false] at hc1
      refine wp_exit ?_
      refine e_then (e_then (e_blk (?_)))
      refine n_then ?_
      refine wp_seq ?_
      refine rg ?_
      refine sc cl15 (law22_awake_ok _) rfl ?_
      rintro v81 w77 ⟨rfl, ho78⟩
      have hz82 := ho78.size
      replace hL0 := hL0.ext ho78
      replace hL1 := hL1.ext ho78
      replace hE := hE.step ho78 (.inl (Nat.le_refl _))
      replace hN := hN.ext ho78
      replace hbl10 := hbl10.ext ho78
      replace hT := hT.ext ho78
      replace hSy := hSy.ext ho78
      refine st (asB rfl) ?_
      refine rg_end ?_
      refine n_then ?_
      refine wp_ret ?_
      refine ret1 (v := (.bool _)) Try.results6 rfl ?_
      exact ⟨rfl, hE⟩
end Go.Proofs.Ytggaekjnpbicnaa
