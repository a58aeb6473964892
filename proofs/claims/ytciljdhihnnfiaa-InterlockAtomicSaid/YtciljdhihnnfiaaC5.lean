/-
  Walks of the functions, printed by a program out of the code and the loops' relations.
-/
import Derived.Test.YtciljdhihnnfiaaWkG
import Derived.Test.YtciljdhihnnfiaaProg
import Derived.KernelRfl
import Derived.Test.YtciljdhihnnfiaaC4
import Derived.Test.YtciljdhihnnfiaaIlx
namespace Go.Proofs.Ytciljdhihnnfiaa
open Go.Wk Go.RowKit
set_option linter.unusedVariables false
set_option linter.unusedSimpArgs false
theorem cl12 : Callable Try.prog 12 := ⟨Try.call12⟩
theorem cl13 : Callable Try.prog 13 := ⟨Try.call13⟩
theorem cl15 : Callable Try.prog 15 := ⟨Try.call15⟩
theorem cl26 : Callable Try.prog 26 := ⟨Try.call26⟩
theorem cl27 : Callable Try.prog 27 := ⟨Try.call27⟩
set_option maxRecDepth 100000 in
theorem infoz45 : ∃ i, Try.prog.info? 45 = some i ∧ i.zero = some (.agg #[.int .i64 0, .int .i64 0]) ∧ i.size = 2 ∧ i.bytes = 16 ∧ (Value.cells (.agg #[.int .i64 0, .int .i64 0])).size = 2 := ⟨Try.t45, Try.type45, rfl, rfl, rfl, rfl⟩

set_option maxRecDepth 100000 in
theorem law32_flanks_ok (lo hi bs : Nat) (w : World) (hS : Src lo hi bs w) (hbs : bs < lo ∨ hi ≤ bs) (hhs : hi ≤ w.heap.size)  : Cal Try.prog 15 [.pointer (some ⟨bs, 0, none⟩)] w (fun v w' => ∃ af cf fl, v = .slice af fl.length cf ∧ MadeFl 5 fl ∧ Ow 35 encFk 3 w.heap.size w'.heap.size w' af cf fl ∧ Src lo hi bs w' ∧ Out bs (bs + 1) w w') := by
  have hbl := hS.lt
  have hE : Out bs (bs + 1) w w := Out.refl _ _ w
  refine enter Try.func15 rfl Try.ntmps15 rfl ?_
  refine wp_seq ?_
  refine rg ?_
  refine st (asS rfl) ?_
  refine rg_end ?_
  refine n_then ?_
  refine wp_seq ?_
  refine rg ?_
  refine st (asS rfl) ?_
  refine rg_end ?_
  refine n_then ?_
  refine wp_seq ?_
  refine wp_seq ?_
  refine rg ?_
  refine st (asI rfl) ?_
  refine rg_end ?_
  refine n_then ?_
  refine wp_block ?_
  obtain ⟨z2, hz2⟩ : ∃ z, z = w.heap.size := ⟨_, rfl⟩
  refine lp (γ := Int × List Fk × Option Addr × Nat) [3, 4, 5, 6, 7, 8, 9, 10, 11, 12, 13, 14, 15, 16, 17, 18, 19, 20, 21, 22, 23, 24, 25, 26, 27, 28] (fun ⟨r, fl, af, cf⟩ => [(4, .int .i64 r), (3, .slice af fl.length cf)]) (fun ⟨r, fl, af, cf⟩ w_ => Out bs (bs + 1) w w_ ∧ 0 ≤ r ∧ r ≤ 5 ∧ MadeFl r fl ∧ Src lo hi bs w_ ∧ Ow 35 encFk 3 z2 w_.heap.size w_ af cf fl) (fun ⟨r, fl, af, cf⟩ => (5 - r).toNat) (0, [], none, 0) ⟨rfl, rfl, trivial⟩ ⟨Out.refl _ _ _, by decide, by decide, MadeFl.start, hS, Ow.nil (fun _ => rfl)⟩ ?_
  rintro ⟨r, fl, af, cf⟩ hav_ w1 ⟨ho2, hr0, hr5, hmd, hS, hmv⟩
  have hlp0 := ho2
  have hz3 := ho2.size
  replace hE := hE.step ho2 (by first | omega | (simp only [blk_some, hi1_some] at *; omega))
  refine wp_seq ?_
  refine wp_seq ?_
  refine rg ?_
  refine st (mvI rfl) ?_
  refine st (y_lss rfl rfl) ?_
  refine rg_end ?_
  refine n_then ?_
  refine cnd rfl (fun hc0 => ?_) (fun hc0 => ?_)
  ·
    try simp only [decide_eq_true_eq, decide_eq_false_iff_not, Bool.not_eq_true', Bool.not_eq_false', Bool.and_eq_true, Bool.or_eq_true, Bool.or_eq_false_iff, Bool.cond_true_right, Bool.cond_false_right, Bool.cond_true_left, Bool.cond_false_left, ne_eq, Decidable.not_not, bne_iff_ne, beq_iff_eq, beq_eq_false_iff_ne, Bool.not_true, Bool.not_false] at hc0
    have hlen := hmd.len
    refine wp_skip ?_
    refine n_then ?_
    refine wp_seq ?_
    refine wp_block ?_
    refine wp_seq ?_
    refine rg ?_
    refine st (mvP rfl) ?_
    refine sc cl13 (keep_Next_ok _ _ _ _ _ hS (by omega) (by omega) (by omega)) rfl ?_
    rintro v8 w4 ⟨e1, rfl, e1_0, e1_1, hS, ho5⟩
    have hz9 := ho5.size
    replace hE := hE.step ho5 (by first | omega | (simp only [blk_some, hi1_some] at *; omega))
    have hrnhmv := hmv.rng
    replace hmv := hmv.out ho5 (by first | omega | (simp only [blk_some, hi1_some] at *; omega))
    replace hlp0 := hlp0.step ho5 (by first | omega | (simp only [blk_some, hi1_some] at *; omega))
    refine st (y_add rfl rfl (by omega)) ?_
    refine st (asI rfl) ?_
    refine rg_end ?_
    refine n_then ?_
    refine wp_seq ?_
    refine rg ?_
    refine st (mvP rfl) ?_
    refine sc cl13 (keep_Next_ok _ _ _ _ _ hS (by omega) (by omega) (by omega)) rfl ?_
    rintro v14 w10 ⟨e2, rfl, e2_0, e2_1, hS, ho11⟩
    have hz15 := ho11.size
    replace hE := hE.step ho11 (by first | omega | (simp only [blk_some, hi1_some] at *; omega))
    replace hmv := hmv.out ho11 (by first | omega | (simp only [blk_some, hi1_some] at *; omega))
    replace hlp0 := hlp0.step ho11 (by first | omega | (simp only [blk_some, hi1_some] at *; omega))
    refine st (y_eql rfl rfl) ?_
    refine st (mvB rfl) ?_
    refine gspL 16 rfl (fun hg16 => ?_) (fun hg16 => ?_)
    ·
      have hg16n := hg16; try simp only [decide_eq_true_eq, decide_eq_false_iff_not, Bool.not_eq_true', Bool.not_eq_false', Bool.and_eq_true, Bool.or_eq_true, Bool.or_eq_false_iff, Bool.cond_true_right, Bool.cond_false_right, Bool.cond_true_left, Bool.cond_false_left, ne_eq, Decidable.not_not, bne_iff_ne, beq_iff_eq, beq_eq_false_iff_ne, Bool.not_true, Bool.not_false] at hg16n
      refine stg rfl rfl hg16 (mvI rfl) ?_
      refine stg rfl rfl hg16 (mvI rfl) ?_
      refine stg rfl rfl hg16 (y_neq rfl rfl) ?_
      refine st (y_pickT rfl hg16 (v := .bool _) rfl) ?_
      refine rg_end ?_
      refine n_then ?_
      refine cnd rfl (fun hc1 => ?_) (fun hc1 => ?_)
      ·
        try simp only [decide_eq_true_eq, decide_eq_false_iff_not, Bool.not_eq_true', Bool.not_eq_false', Bool.and_eq_true, Bool.or_eq_true, Bool.or_eq_false_iff, Bool.cond_true_right, Bool.cond_false_right, Bool.cond_true_left, Bool.cond_false_left, ne_eq, Decidable.not_not, bne_iff_ne, beq_iff_eq, beq_eq_false_iff_ne, Bool.not_true, Bool.not_false] at hc1
        refine rg ?_
        refine st (mvS rfl) ?_
        refine st (mvI rfl) ?_
        refine st (mvI rfl) ?_
        refine st (mvP rfl) ?_
        refine sc cl13 (keep_Next_ok _ _ _ _ _ hS (by omega) (by omega) (by omega)) rfl ?_
        rintro v21 w17 ⟨e3, rfl, e3_0, e3_1, hS, ho18⟩
        have hz22 := ho18.size
        replace hE := hE.step ho18 (by first | omega | (simp only [blk_some, hi1_some] at *; omega))
        replace hmv := hmv.out ho18 (by first | omega | (simp only [blk_some, hi1_some] at *; omega))
        replace hlp0 := hlp0.step ho18 (by first | omega | (simp only [blk_some, hi1_some] at *; omega))
        have hmd1 := hmd.add hr0 hc0 (p := 3 + e1) (x := e3) (by omega) (by omega) (by omega) e3_0 e3_1
        refine st (y_build (bld35_0_1_2 _ _ _ _) rfl) ?_
        refine sd (d_bs (bsl22_1 _ _ _ _) rfl ?_)
        intro bl26 w23 hbbl26 hs25 ho24 hbl26
        have hz27 := ho24.size
        replace hE := hE.step ho24 (.inl (Nat.le_refl _))
        replace hS := hS.ext ho24
        replace hmv := hmv.ext ho24
        replace hlp0 := hlp0.step ho24 (.inl (Nat.le_refl _))
        have hrhmv := hmv.rng
        refine sd (d_app (xs := [(⟨r, 3 + e1, e3⟩ : Fk)]) hmv sl22 infoz35 (by decide) rfl rfl rfl rfl (hbl26) (fun _ => rfl) (by simp; unfold maxLen; omega) (by simp; omega) (by omega) (by omega) ?_)
        intro af1 cf1 w28 ho29 hmv'
        have hs30 := ho29.size
        clear hmv; have hmv := hmv'; clear hmv'
        have hz33 := ho29.size
        replace hE := hE.step ho29 (by first | omega | (simp only [blk_some, hi1_some] at *; omega))
        replace hS := hS.out ho29 (by first | omega | (simp only [blk_some, hi1_some] at *; omega))
        replace hlp0 := hlp0.step ho29 (by first | omega | (simp only [blk_some, hi1_some] at *; omega))
        refine st (asS rfl) ?_
        refine rg_end ?_
        refine n_blk ?_
        refine n_then ?_
        refine rg ?_
        refine st (mvI rfl) ?_
        refine st (y_add rfl rfl (by omega)) ?_
        refine st (asI rfl) ?_
        refine rg_end ?_
        exact n_then ⟨(r + 1, _, _, _), _, rfl, same_lk rfl (same_h0), ⟨rfl, rfl, trivial⟩, ⟨hlp0, by omega, by omega, hmd1, hS, hmv.wide (by omega)⟩, by first | omega | (dsimp only; omega)⟩
      ·
        try simp only [decide_eq_true_eq, decide_eq_false_iff_not, Bool.not_eq_true', Bool.not_eq_false', Bool.and_eq_true, Bool.or_eq_true, Bool.or_eq_false_iff, Bool.cond_true_right, Bool.cond_false_right, Bool.cond_true_left, Bool.cond_false_left, ne_eq, Decidable.not_not, bne_iff_ne, beq_iff_eq, beq_eq_false_iff_ne, Bool.not_true, Bool.not_false] at hc1
        have hmd1 := hmd.skip
        refine wp_skip ?_
        refine n_blk ?_
        refine n_then ?_
        refine rg ?_
        refine st (mvI rfl) ?_
        refine st (y_add rfl rfl (by omega)) ?_
        refine st (asI rfl) ?_
        refine rg_end ?_
        exact n_then ⟨(r + 1, _, _, _), _, rfl, same_lk rfl (same_h0), ⟨rfl, rfl, trivial⟩, ⟨hlp0, by omega, by omega, hmd1, hS, hmv.wide (by omega)⟩, by first | omega | (dsimp only; omega)⟩
    ·
      have hg16n := hg16; try simp only [decide_eq_true_eq, decide_eq_false_iff_not, Bool.not_eq_true', Bool.not_eq_false', Bool.and_eq_true, Bool.or_eq_true, Bool.or_eq_false_iff, Bool.cond_true_right, Bool.cond_false_right, Bool.cond_true_left, Bool.cond_false_left, ne_eq, Decidable.not_not, bne_iff_ne, beq_iff_eq, beq_eq_false_iff_ne, Bool.not_true, Bool.not_false] at hg16n
      have hmd1 := hmd.skip
      refine sts rfl rfl hg16 ?_
      refine sts rfl rfl hg16 ?_
      refine sts rfl rfl hg16 ?_
      refine st (y_pickF rfl hg16 (v := .bool _) rfl) ?_
      refine rg_end ?_
      refine n_then ?_
      refine cnd rfl (fun hc1 => absurd hc1 (by decide)) (fun hc1 => ?_)
      have hmd1 := hmd.skip
      refine wp_skip ?_
      refine n_blk ?_
      refine n_then ?_
      refine rg ?_
      refine st (mvI rfl) ?_
      refine st (y_add rfl rfl (by omega)) ?_
      refine st (asI rfl) ?_
      refine rg_end ?_
      exact n_then ⟨(r + 1, _, _, _), _, rfl, same_lk rfl (same_h0), ⟨rfl, rfl, trivial⟩, ⟨hlp0, by omega, by omega, hmd1, hS, hmv.wide (by omega)⟩, by first | omega | (dsimp only; omega)⟩
  ·
    try simp only [decide_eq_true_eq, decide_eq_false_iff_not, Bool.not_eq_true', Bool.not_eq_false', Bool.and_eq_true, Bool.or_eq_true, Bool.or_eq_false_iff, Bool.cond_true_right, Bool.cond_false_right, Bool.cond_true_left, Bool.cond_false_left, ne_eq, Decidable.not_not, bne_iff_ne, beq_iff_eq, beq_eq_false_iff_ne, Bool.not_true, Bool.not_false] at hc0
    refine wp_exit ?_
    refine e_then (e_then (e_blk (?_)))
    refine n_then ?_
    refine wp_seq ?_
    refine rg ?_
    refine st (mvS rfl) ?_
    refine st (asS rfl) ?_
    refine rg_end ?_
    refine n_then ?_
    refine wp_ret ?_
    refine ret1 (v := (.slice _ _ _)) Try.results15 rfl ?_
    have hr1 : r = 5 := by omega
    subst hr1
    exact ⟨af, cf, fl, rfl, hmd, hmv.lower (by omega), hS, hE⟩

set_option maxRecDepth 100000 in
theorem law32_locks_ok (lo hi bs : Nat) (w : World) (hS : Src lo hi bs w) (hbs : bs < lo ∨ hi ≤ bs) (hhs : hi ≤ w.heap.size)  : Cal Try.prog 33 [.pointer (some ⟨bs, 0, none⟩)] w (fun v w' => ∃ al cl l, v = .slice al l.length cl ∧ (l.length : Int) ≤ 3 ∧ Ow 45 encLk 2 w.heap.size w'.heap.size w' al cl l ∧ Src lo hi bs w' ∧ Out bs (bs + 1) w w') := by
  have hbl := hS.lt
  have hE : Out bs (bs + 1) w w := Out.refl _ _ w
  refine enter Try.func33 rfl Try.ntmps33 rfl ?_
  refine wp_seq ?_
  refine rg ?_
  refine st (asS rfl) ?_
  refine rg_end ?_
  refine n_then ?_
  refine wp_seq ?_
  refine rg ?_
  refine st (asS rfl) ?_
  refine rg_end ?_
  refine n_then ?_
  refine wp_seq ?_
  refine wp_seq ?_
  refine rg ?_
  refine st (mvP rfl) ?_
  refine sc cl13 (keep_Next_ok _ _ _ _ _ hS (by omega) (by omega) (by omega)) rfl ?_
  rintro v5 w1 ⟨e0, rfl, e0_0, e0_1, hS, ho2⟩
  have hz6 := ho2.size
  replace hE := hE.step ho2 (by first | omega | (simp only [blk_some, hi1_some] at *; omega))
  refine st (y_add rfl rfl (by omega)) ?_
  refine st (asI rfl) ?_
  refine rg_end ?_
  refine n_then ?_
  refine wp_block ?_
  obtain ⟨z2, hz2⟩ : ∃ z, z = w1.heap.size := ⟨_, rfl⟩
  refine lp (γ := Int × List Lk × Option Addr × Nat) [3, 4, 5, 9, 10, 11, 12, 13, 14, 15, 16, 17, 18, 19, 20, 21, 22, 23, 24, 25, 26, 27, 28, 29, 30, 31, 32, 33] (fun ⟨n, l, al, cl⟩ => [(4, .int .i64 n), (3, .slice al l.length cl)]) (fun ⟨n, l, al, cl⟩ w_ => Out bs (bs + 1) w1 w_ ∧ 0 ≤ n ∧ n + l.length ≤ 3 ∧ Src lo hi bs w_ ∧ Ow 45 encLk 2 z2 w_.heap.size w_ al cl l) (fun ⟨n, l, al, cl⟩ => n.toNat) (_, [], none, 0) ⟨rfl, rfl, trivial⟩ ⟨Out.refl _ _ _, by omega, by simp; omega, hS, Ow.nil (fun _ => rfl)⟩ ?_
  rintro ⟨n, l, al, cl⟩ hav_ w7 ⟨ho8, hn0, hn3, hS, hmv⟩
  have hlp0 := ho8
  have hz9 := ho8.size
  replace hE := hE.step ho8 (by first | omega | (simp only [blk_some, hi1_some] at *; omega))
  refine wp_seq ?_
  refine wp_seq ?_
  refine rg ?_
  refine st (mvI rfl) ?_
  refine st (y_gtr rfl rfl) ?_
  refine rg_end ?_
  refine n_then ?_
  refine cnd rfl (fun hc0 => ?_) (fun hc0 => ?_)
  ·
    try simp only [decide_eq_true_eq, decide_eq_false_iff_not, Bool.not_eq_true', Bool.not_eq_false', Bool.and_eq_true, Bool.or_eq_true, Bool.or_eq_false_iff, Bool.cond_true_right, Bool.cond_false_right, Bool.cond_true_left, Bool.cond_false_left, ne_eq, Decidable.not_not, bne_iff_ne, beq_iff_eq, beq_eq_false_iff_ne, Bool.not_true, Bool.not_false] at hc0
    refine wp_skip ?_
    refine n_then ?_
    refine wp_seq ?_
    refine wp_block ?_
    refine wp_seq ?_
    refine rg ?_
    refine st (mvP rfl) ?_
    refine sc cl13 (keep_Next_ok _ _ _ _ _ hS (by omega) (by omega) (by omega)) rfl ?_
    rintro v14 w10 ⟨e1, rfl, e1_0, e1_1, hS, ho11⟩
    have hz15 := ho11.size
    replace hE := hE.step ho11 (by first | omega | (simp only [blk_some, hi1_some] at *; omega))
    have hrnhmv := hmv.rng
    replace hmv := hmv.out ho11 (by first | omega | (simp only [blk_some, hi1_some] at *; omega))
    replace hlp0 := hlp0.step ho11 (by first | omega | (simp only [blk_some, hi1_some] at *; omega))
    refine st (y_build (bld45_0_1 _ _ _) rfl) ?_
    refine sd (d_allocA zer45 ?_)
    intro b5 w16 hbb5 hs18 ho17 hb5
    have hz19 := ho17.size
    replace hE := hE.step ho17 (.inl (Nat.le_refl _))
    replace hS := hS.ext ho17
    replace hmv := hmv.ext ho17
    replace hlp0 := hlp0.step ho17 (.inl (Nat.le_refl _))
    refine sd0 (d_stN hb5 rfl rfl sz45 rfl rfl ?_)
    intro w20 hs22 ho21 hb5'
    clear hb5; have hb5 := hb5'; clear hb5'
    have hz23 := ho21.size
    replace hE := hE.step ho21 (by first | omega | (simp only [blk_some, hi1_some] at *; omega))
    replace hS := hS.out ho21 (by first | omega | (simp only [blk_some, hi1_some] at *; omega))
    replace hmv := hmv.out ho21 (by first | omega | (simp only [blk_some, hi1_some] at *; omega))
    replace hlp0 := hlp0.step ho21 (by first | omega | (simp only [blk_some, hi1_some] at *; omega))
    refine rg_end ?_
    refine n_then ?_
    refine wp_seq ?_
    refine wp_seq ?_
    refine rg ?_
    refine st (y_fld fld45_0 rfl) ?_
    refine st (y_lb hb5 na3 rfl rfl) ?_
    refine st (y_geq rfl rfl) ?_
    refine rg_end ?_
    refine n_then ?_
    refine cnd rfl (fun hc1 => ?_) (fun hc1 => ?_)
    ·
      try simp only [decide_eq_true_eq, decide_eq_false_iff_not, Bool.not_eq_true', Bool.not_eq_false', Bool.and_eq_true, Bool.or_eq_true, Bool.or_eq_false_iff, Bool.cond_true_right, Bool.cond_false_right, Bool.cond_true_left, Bool.cond_false_left, ne_eq, Decidable.not_not, bne_iff_ne, beq_iff_eq, beq_eq_false_iff_ne, Bool.not_true, Bool.not_false] at hc1
      refine rg ?_
      refine st (mvP rfl) ?_
      refine sc cl13 (keep_Next_ok _ _ _ _ _ hS (by omega) (by omega) (by omega)) rfl ?_
      rintro v28 w24 ⟨e2, rfl, e2_0, e2_1, hS, ho25⟩
      have hz29 := ho25.size
      replace hE := hE.step ho25 (by first | omega | (simp only [blk_some, hi1_some] at *; omega))
      replace hmv := hmv.out ho25 (by first | omega | (simp only [blk_some, hi1_some] at *; omega))
      replace hlp0 := hlp0.step ho25 (by first | omega | (simp only [blk_some, hi1_some] at *; omega))
      replace hb5 := hb5.out ho25 (by first | omega | (simp only [blk_some, hi1_some] at *; omega))
      refine st (y_sub rfl rfl (by omega)) ?_
      refine st (y_fld fld45_1 rfl) ?_
      refine sd0 (d_st hb5 sz3 rfl rfl rfl (Nat.le_of_ble_eq_true rfl) ?_)
      intro w30 hs32 ho31 hb5'
      clear hb5; have hb5 := hb5'; clear hb5'
      have hz33 := ho31.size
      replace hE := hE.step ho31 (by first | omega | (simp only [blk_some, hi1_some] at *; omega))
      replace hS := hS.out ho31 (by first | omega | (simp only [blk_some, hi1_some] at *; omega))
      replace hmv := hmv.out ho31 (by first | omega | (simp only [blk_some, hi1_some] at *; omega))
      replace hlp0 := hlp0.step ho31 (by first | omega | (simp only [blk_some, hi1_some] at *; omega))
      refine rg_end ?_
      refine n_then ?_
      refine wp_seq ?_
      refine wp_seq ?_
      refine rg ?_
      refine st (mvP rfl) ?_
      refine sc cl13 (keep_Next_ok _ _ _ _ _ hS (by omega) (by omega) (by omega)) rfl ?_
      rintro v38 w34 ⟨e3, rfl, e3_0, e3_1, hS, ho35⟩
      have hz39 := ho35.size
      replace hE := hE.step ho35 (by first | omega | (simp only [blk_some, hi1_some] at *; omega))
      replace hmv := hmv.out ho35 (by first | omega | (simp only [blk_some, hi1_some] at *; omega))
      replace hlp0 := hlp0.step ho35 (by first | omega | (simp only [blk_some, hi1_some] at *; omega))
      replace hb5 := hb5.out ho35 (by first | omega | (simp only [blk_some, hi1_some] at *; omega))
      refine st (y_eql rfl rfl) ?_
      refine rg_end ?_
      refine n_then ?_
      refine cnd rfl (fun hc2 => ?_) (fun hc2 => ?_)
      ·
        try simp only [decide_eq_true_eq, decide_eq_false_iff_not, Bool.not_eq_true', Bool.not_eq_false', Bool.and_eq_true, Bool.or_eq_true, Bool.or_eq_false_iff, Bool.cond_true_right, Bool.cond_false_right, Bool.cond_true_left, Bool.cond_false_left, ne_eq, Decidable.not_not, bne_iff_ne, beq_iff_eq, beq_eq_false_iff_ne, Bool.not_true, Bool.not_false] at hc2
        refine rg ?_
        refine st (y_fld fld45_0 rfl) ?_
        refine st (y_lb hb5 na3 rfl rfl) ?_
        refine st (y_add rfl rfl (by omega)) ?_
        refine st (y_fld fld45_0 rfl) ?_
        refine sd0 (d_st hb5 sz3 rfl rfl rfl (Nat.le_of_ble_eq_true rfl) ?_)
        intro w40 hs42 ho41 hb5'
        clear hb5; have hb5 := hb5'; clear hb5'
        have hz43 := ho41.size
        replace hE := hE.step ho41 (by first | omega | (simp only [blk_some, hi1_some] at *; omega))
        replace hS := hS.out ho41 (by first | omega | (simp only [blk_some, hi1_some] at *; omega))
        replace hmv := hmv.out ho41 (by first | omega | (simp only [blk_some, hi1_some] at *; omega))
        replace hlp0 := hlp0.step ho41 (by first | omega | (simp only [blk_some, hi1_some] at *; omega))
        refine rg_end ?_
        refine n_then ?_
        refine rg ?_
        refine st (mvS rfl) ?_
        refine st (y_lbN hb5 agg45 rfl) ?_
        refine sd (d_bs (bsl46_1 _ _ _) rfl ?_)
        intro bl47 w44 hbbl47 hs46 ho45 hbl47
        have hz48 := ho45.size
        replace hE := hE.step ho45 (.inl (Nat.le_refl _))
        replace hS := hS.ext ho45
        replace hmv := hmv.ext ho45
        replace hlp0 := hlp0.step ho45 (.inl (Nat.le_refl _))
        replace hb5 := hb5.ext ho45
        have hrhmv := hmv.rng
        refine sd (d_app (xs := [(⟨_, _⟩ : Lk)]) hmv sl46 infoz45 (by decide) rfl rfl rfl rfl (hbl47) (fun _ => rfl) (by simp; unfold maxLen; omega) (by simp; omega) (by omega) (by omega) ?_)
        intro al1 cl1 w49 ho50 hmv'
        have hs51 := ho50.size
        clear hmv; have hmv := hmv'; clear hmv'
        have hz54 := ho50.size
        replace hE := hE.step ho50 (by first | omega | (simp only [blk_some, hi1_some] at *; omega))
        replace hS := hS.out ho50 (by first | omega | (simp only [blk_some, hi1_some] at *; omega))
        replace hlp0 := hlp0.step ho50 (by first | omega | (simp only [blk_some, hi1_some] at *; omega))
        replace hb5 := hb5.out ho50 (by first | omega | (simp only [blk_some, hi1_some] at *; omega))
        refine st (asS rfl) ?_
        refine rg_end ?_
        refine n_blk ?_
        refine n_then ?_
        refine rg ?_
        refine st (mvI rfl) ?_
        refine st (y_sub rfl rfl (by omega)) ?_
        refine st (asI rfl) ?_
        refine rg_end ?_
        exact n_then ⟨(n - 1, _, _, _), _, rfl, same_lk rfl (same_h0), ⟨rfl, rfl, trivial⟩, ⟨hlp0, by omega, by simp; omega, hS, hmv.wide (by omega)⟩, by first | omega | (dsimp only; omega)⟩
      ·
        try simp only [decide_eq_true_eq, decide_eq_false_iff_not, Bool.not_eq_true', Bool.not_eq_false', Bool.and_eq_true, Bool.or_eq_true, Bool.or_eq_false_iff, Bool.cond_true_right, Bool.cond_false_right, Bool.cond_true_left, Bool.cond_false_left, ne_eq, Decidable.not_not, bne_iff_ne, beq_iff_eq, beq_eq_false_iff_ne, Bool.not_true, Bool.not_false] at hc2
        refine wp_skip ?_
        refine n_then ?_
        refine rg ?_
        refine st (mvS rfl) ?_
        refine st (y_lbN hb5 agg45 rfl) ?_
        refine sd (d_bs (bsl46_1 _ _ _) rfl ?_)
        intro bl58 w55 hbbl58 hs57 ho56 hbl58
        have hz59 := ho56.size
        replace hE := hE.step ho56 (.inl (Nat.le_refl _))
        replace hS := hS.ext ho56
        replace hmv := hmv.ext ho56
        replace hlp0 := hlp0.step ho56 (.inl (Nat.le_refl _))
        replace hb5 := hb5.ext ho56
        have hrhmv := hmv.rng
        refine sd (d_app (xs := [(⟨_, _⟩ : Lk)]) hmv sl46 infoz45 (by decide) rfl rfl rfl rfl (hbl58) (fun _ => rfl) (by simp; unfold maxLen; omega) (by simp; omega) (by omega) (by omega) ?_)
        intro al1 cl1 w60 ho61 hmv'
        have hs62 := ho61.size
        clear hmv; have hmv := hmv'; clear hmv'
        have hz65 := ho61.size
        replace hE := hE.step ho61 (by first | omega | (simp only [blk_some, hi1_some] at *; omega))
        replace hS := hS.out ho61 (by first | omega | (simp only [blk_some, hi1_some] at *; omega))
        replace hlp0 := hlp0.step ho61 (by first | omega | (simp only [blk_some, hi1_some] at *; omega))
        replace hb5 := hb5.out ho61 (by first | omega | (simp only [blk_some, hi1_some] at *; omega))
        refine st (asS rfl) ?_
        refine rg_end ?_
        refine n_blk ?_
        refine n_then ?_
        refine rg ?_
        refine st (mvI rfl) ?_
        refine st (y_sub rfl rfl (by omega)) ?_
        refine st (asI rfl) ?_
        refine rg_end ?_
        exact n_then ⟨(n - 1, _, _, _), _, rfl, same_lk rfl (same_h0), ⟨rfl, rfl, trivial⟩, ⟨hlp0, by omega, by simp; omega, hS, hmv.wide (by omega)⟩, by first | omega | (dsimp only; omega)⟩
    ·
      try simp only [decide_eq_true_eq, decide_eq_false_iff_not, Bool.not_eq_true', Bool.not_eq_false', Bool.and_eq_true, Bool.or_eq_true, Bool.or_eq_false_iff, Bool.cond_true_right, Bool.cond_false_right, Bool.cond_true_left, Bool.cond_false_left, ne_eq, Decidable.not_not, bne_iff_ne, beq_iff_eq, beq_eq_false_iff_ne, Bool.not_true, Bool.not_false] at hc1
      refine wp_skip ?_
      refine n_then ?_
      refine wp_seq ?_
      refine wp_seq ?_
      refine rg ?_
      refine st (mvP rfl) ?_
      refine sc cl13 (keep_Next_ok _ _ _ _ _ hS (by omega) (by omega) (by omega)) rfl ?_
      rintro v70 w66 ⟨e3, rfl, e3_0, e3_1, hS, ho67⟩
      have hz71 := ho67.size
      replace hE := hE.step ho67 (by first | omega | (simp only [blk_some, hi1_some] at *; omega))
      replace hmv := hmv.out ho67 (by first | omega | (simp only [blk_some, hi1_some] at *; omega))
      replace hlp0 := hlp0.step ho67 (by first | omega | (simp only [blk_some, hi1_some] at *; omega))
      replace hb5 := hb5.out ho67 (by first | omega | (simp only [blk_some, hi1_some] at *; omega))
      refine st (y_eql rfl rfl) ?_
      refine rg_end ?_
      refine n_then ?_
      refine cnd rfl (fun hc2 => ?_) (fun hc2 => ?_)
      ·
        try simp only [decide_eq_true_eq, decide_eq_false_iff_not, Bool.not_eq_true', Bool.not_eq_false', Bool.and_eq_true, Bool.or_eq_true, Bool.or_eq_false_iff, Bool.cond_true_right, Bool.cond_false_right, Bool.cond_true_left, Bool.cond_false_left, ne_eq, Decidable.not_not, bne_iff_ne, beq_iff_eq, beq_eq_false_iff_ne, Bool.not_true, Bool.not_false] at hc2
        refine rg ?_
        refine st (y_fld fld45_0 rfl) ?_
        refine st (y_lb hb5 na3 rfl rfl) ?_
        refine st (y_add rfl rfl (by omega)) ?_
        refine st (y_fld fld45_0 rfl) ?_
        refine sd0 (d_st hb5 sz3 rfl rfl rfl (Nat.le_of_ble_eq_true rfl) ?_)
        intro w72 hs74 ho73 hb5'
        clear hb5; have hb5 := hb5'; clear hb5'
        have hz75 := ho73.size
        replace hE := hE.step ho73 (by first | omega | (simp only [blk_some, hi1_some] at *; omega))
        replace hS := hS.out ho73 (by first | omega | (simp only [blk_some, hi1_some] at *; omega))
        replace hmv := hmv.out ho73 (by first | omega | (simp only [blk_some, hi1_some] at *; omega))
        replace hlp0 := hlp0.step ho73 (by first | omega | (simp only [blk_some, hi1_some] at *; omega))
        refine rg_end ?_
        refine n_then ?_
        refine rg ?_
        refine st (mvS rfl) ?_
        refine st (y_lbN hb5 agg45 rfl) ?_
        refine sd (d_bs (bsl46_1 _ _ _) rfl ?_)
        intro bl79 w76 hbbl79 hs78 ho77 hbl79
        have hz80 := ho77.size
        replace hE := hE.step ho77 (.inl (Nat.le_refl _))
        replace hS := hS.ext ho77
        replace hmv := hmv.ext ho77
        replace hlp0 := hlp0.step ho77 (.inl (Nat.le_refl _))
        replace hb5 := hb5.ext ho77
        have hrhmv := hmv.rng
        refine sd (d_app (xs := [(⟨_, _⟩ : Lk)]) hmv sl46 infoz45 (by decide) rfl rfl rfl rfl (hbl79) (fun _ => rfl) (by simp; unfold maxLen; omega) (by simp; omega) (by omega) (by omega) ?_)
        intro al1 cl1 w81 ho82 hmv'
        have hs83 := ho82.size
        clear hmv; have hmv := hmv'; clear hmv'
        have hz86 := ho82.size
        replace hE := hE.step ho82 (by first | omega | (simp only [blk_some, hi1_some] at *; omega))
        replace hS := hS.out ho82 (by first | omega | (simp only [blk_some, hi1_some] at *; omega))
        replace hlp0 := hlp0.step ho82 (by first | omega | (simp only [blk_some, hi1_some] at *; omega))
        replace hb5 := hb5.out ho82 (by first | omega | (simp only [blk_some, hi1_some] at *; omega))
        refine st (asS rfl) ?_
        refine rg_end ?_
        refine n_blk ?_
        refine n_then ?_
        refine rg ?_
        refine st (mvI rfl) ?_
        refine st (y_sub rfl rfl (by omega)) ?_
        refine st (asI rfl) ?_
        refine rg_end ?_
        exact n_then ⟨(n - 1, _, _, _), _, rfl, same_lk rfl (same_h0), ⟨rfl, rfl, trivial⟩, ⟨hlp0, by omega, by simp; omega, hS, hmv.wide (by omega)⟩, by first | omega | (dsimp only; omega)⟩
      ·
        try simp only [decide_eq_true_eq, decide_eq_false_iff_not, Bool.not_eq_true', Bool.not_eq_false', Bool.and_eq_true, Bool.or_eq_true, Bool.or_eq_false_iff, Bool.cond_true_right, Bool.cond_false_right, Bool.cond_true_left, Bool.cond_false_left, ne_eq, Decidable.not_not, bne_iff_ne, beq_iff_eq, beq_eq_false_iff_ne, Bool.not_true, Bool.not_false] at hc2
        refine wp_skip ?_
        refine n_then ?_
        refine rg ?_
        refine st (mvS rfl) ?_
        refine st (y_lbN hb5 agg45 rfl) ?_
        refine sd (d_bs (bsl46_1 _ _ _) rfl ?_)
        intro bl90 w87 hbbl90 hs89 ho88 hbl90
        have hz91 := ho88.size
        replace hE := hE.step ho88 (.inl (Nat.le_refl _))
        replace hS := hS.ext ho88
        replace hmv := hmv.ext ho88
        replace hlp0 := hlp0.step ho88 (.inl (Nat.le_refl _))
        replace hb5 := hb5.ext ho88
        have hrhmv := hmv.rng
        refine sd (d_app (xs := [(⟨_, _⟩ : Lk)]) hmv sl46 infoz45 (by decide) rfl rfl rfl rfl (hbl90) (fun _ => rfl) (by simp; unfold maxLen; omega) (by simp; omega) (by omega) (by omega) ?_)
        intro al1 cl1 w92 ho93 hmv'
        have hs94 := ho93.size
        clear hmv; have hmv := hmv'; clear hmv'
        have hz97 := ho93.size
        replace hE := hE.step ho93 (by first | omega | (simp only [blk_some, hi1_some] at *; omega))
        replace hS := hS.out ho93 (by first | omega | (simp only [blk_some, hi1_some] at *; omega))
        replace hlp0 := hlp0.step ho93 (by first | omega | (simp only [blk_some, hi1_some] at *; omega))
        replace hb5 := hb5.out ho93 (by first | omega | (simp only [blk_some, hi1_some] at *; omega))
        refine st (asS rfl) ?_
        refine rg_end ?_
        refine n_blk ?_
        refine n_then ?_
        refine rg ?_
        refine st (mvI rfl) ?_
        refine st (y_sub rfl rfl (by omega)) ?_
        refine st (asI rfl) ?_
        refine rg_end ?_
        exact n_then ⟨(n - 1, _, _, _), _, rfl, same_lk rfl (same_h0), ⟨rfl, rfl, trivial⟩, ⟨hlp0, by omega, by simp; omega, hS, hmv.wide (by omega)⟩, by first | omega | (dsimp only; omega)⟩
  ·
    try simp only [decide_eq_true_eq, decide_eq_false_iff_not, Bool.not_eq_true', Bool.not_eq_false', Bool.and_eq_true, Bool.or_eq_true, Bool.or_eq_false_iff, Bool.cond_true_right, Bool.cond_false_right, Bool.cond_true_left, Bool.cond_false_left, ne_eq, Decidable.not_not, bne_iff_ne, beq_iff_eq, beq_eq_false_iff_ne, Bool.not_true, Bool.not_false] at hc0
    refine wp_exit ?_
    refine e_then (e_then (e_blk (?_)))
    refine n_then ?_
    refine wp_seq ?_
    refine rg ?_
    refine st (mvS rfl) ?_
    refine st (asS rfl) ?_
    refine rg_end ?_
    refine n_then ?_
    refine wp_ret ?_
    refine ret1 (v := (.slice _ _ _)) Try.results33 rfl ?_
    exact ⟨al, cl, l, rfl, by omega, hmv.lower (by omega), hS, hE⟩

set_option maxRecDepth 100000 in
theorem keep_Left_ok (lo hi bs : Nat) (w : World) (hS : Src lo hi bs w) : Cal Try.prog 16 [.pointer (some ⟨bs, 0, none⟩)] w (fun v w' => ∃ q, v = .bool q ∧ Ext w w') := by
  obtain ⟨al, cl, l, ps, hbs, hL, p0, p1, p2⟩ := hS
  have hE : Out 0 0 w w := Out.refl _ _ w
  refine enter Try.func16 rfl Try.ntmps16 rfl ?_
  refine wp_seq ?_
  refine rg ?_
  refine st (asB rfl) ?_
  refine rg_end ?_
  refine n_then ?_
  refine wp_seq ?_
  refine rgD 9 (fun w_ => Ext w w_) (fun i => false) mixed (by kernel_rfl) ?_
  intro w1 ho2 hs3
  refine ⟨ho2, ?_⟩
  have hx4 := ho2
  refine tn rfl (fun _ hG => mvP rfl) ?_
  refine tn rfl (fun _ hG => y_nil rfl) ?_
  refine tn rfl (fun _ hG => y_fld fld69_1 rfl) ?_
  refine tn rfl (fun _ hG => y_lb (hbs.ext hG) na3 rfl rfl) ?_
  refine tn rfl (fun _ hG => mvP rfl) ?_
  refine tn rfl (fun _ hG => y_nil rfl) ?_
  refine tn rfl (fun _ hG => y_fld fld69_0 rfl) ?_
  refine tn rfl (fun _ hG => y_lb (hbs.ext hG) na23 rfl rfl) ?_
  refine tn rfl (fun _ hG => y_len Try.underlying23 rfl) ?_
  refine t_end ?_
  have hz5 := hx4.size
  replace hbs := hbs.ext hx4
  replace hL := hL.ext hx4
  replace hE := hE.step hx4 (.inl (Nat.le_refl _))
  refine st (y_lss rfl rfl) ?_
  refine st (asB rfl) ?_
  refine rg_end ?_
  refine n_then ?_
  refine wp_ret ?_
  refine ret1 (v := (.bool _)) Try.results16 rfl ?_
  exact ⟨_, rfl, hE⟩

set_option maxHeartbeats 1000000 in
set_option maxRecDepth 100000 in
theorem law32_InterlockExclusive_ok (a0 : Option Addr) (c0 : Nat) (l0 : List Int) (r a b : Int) (w : World) (hL0 : Ints 0 w.heap.size w a0 l0) (hl0 : (l0.length : Int) ≤ 9223372036854775807) : Cal Try.prog 6 [.slice a0 l0.length c0, .int .i64 r, .int .i64 a, .int .i64 b] w (fun v w' => v = .bool true ∧ Ext w w') := by
  have hk := pick_rng r 3 (by omega)
  have ht := pick_rng a 10 (by omega)
  have hb := pick_rng b 9 (by omega)
  have hu := other_rem (pick a 10) (pick b 9) 10 ht.1 ht.2 hb.1 hb.2
  have hE : Out 0 0 w w := Out.refl _ _ w
  refine enter Try.func6 rfl Try.ntmps6 rfl ?_
  refine wp_seq ?_
  refine rg ?_
  refine st (asB rfl) ?_
  refine rg_end ?_
  refine n_then ?_
  refine wp_seq ?_
  refine rg ?_
  refine st (mvS rfl) ?_
  refine sc cl12 (keep_From_ok _ _ _ _ _ _ hL0 hl0) rfl ?_
  rintro v5 w1 ⟨bs, rfl, hbs, hzs, hS, ho2⟩
  have hbs0 := hbs
  have hz6 := ho2.size
  replace hL0 := hL0.ext ho2
  replace hE := hE.step ho2 (.inl (Nat.le_refl _))
  refine st (asP rfl) ?_
  refine rg_end ?_
  refine n_then ?_
  refine wp_seq ?_
  refine rg ?_
  refine st (mvP rfl) ?_
  refine sc cl15 (law32_flanks_ok _ _ _ _ hS (by omega) (by omega)) rfl ?_
  rintro v11 w7 ⟨af, cf, fl, rfl, hmd, hF, hS, ho8⟩
  have hfl5 := hmd.len
  have hz12 := ho8.size
  replace hL0 := hL0.out ho8 (by first | omega | (simp only [blk_some, hi1_some] at *; omega))
  replace hE := hE.step ho8 (by first | omega | (simp only [blk_some, hi1_some] at *; omega))
  refine sc cl10 (ilk_New_ok 6 fl _ _ _ _ _ (Ow.sl hF) (hF.lenLe) (by omega)) rfl ?_
  rintro v17 w13 ⟨p, e, rfl, he, hp0, hp1, ho14⟩
  obtain rfl : e = 0 := he.trans hmd.new
  obtain ⟨bx, rfl, hX⟩ := hp1 rfl
  have hI0 : IsOk (initS (6 : Int).toNat fl) := initS_ok hmd.new
  have o0 : OneSt fl 6 (pick r 3) (-1) 0 (initS (6 : Int).toNat fl) := OneSt.start hk.1 (by omega)
  obtain ⟨q1, o1⟩ := o0.grantFree hI0 hmd.go ht
  have hI1 := grantS_ok hI0 (pick a 10) [(⟨(pick r 3), -1⟩ : Lk)]
  obtain ⟨q2, s2⟩ := o1.grantHeld (u := ((pick a 10 + 1 + pick b 9).tmod 10)) ht.1 ⟨hu.1, hu.2.1⟩ (fun h => hu.2.2 h.symm)
  obtain ⟨q3, s3⟩ := o1.freeHeld (u := ((pick a 10 + 1 + pick b 9).tmod 10)) ⟨hu.1, hu.2.1⟩ (fun h => hu.2.2 h.symm)
  have o2 := o1.rep (v := 1) (by decide)
  have hI2 := repS_ok hI1 (pick r 3) 1
  obtain ⟨q4, s4⟩ := o2.freeBusy ht (by decide)
  obtain ⟨q5, o3⟩ := o2.grantOwn ht
  have hI3 := grantS_ok hI2 (pick a 10) [(⟨(pick r 3), -1⟩ : Lk)]
  have o4 := o3.rep (v := 0) (by decide)
  have hI4 := repS_ok hI3 (pick r 3) 0
  obtain ⟨q6, o5⟩ := o4.freeOk ht
  have hI5 := freeS_ok hI4 (pick a 10) (pick r 3)
  obtain ⟨q7, o6⟩ := o5.grantFree (t := ((pick a 10 + 1 + pick b 9).tmod 10)) hI5 hmd.go ⟨hu.1, hu.2.1⟩
  have hI6 := grantS_ok hI5 ((pick a 10 + 1 + pick b 9).tmod 10) [(⟨(pick r 3), -1⟩ : Lk)]
  have q8 := o6.holder
  have q9 := o6.held ⟨hu.1, hu.2.1⟩
  have hz18 := ho14.size
  replace hL0 := hL0.ext ho14
  replace hE := hE.step ho14 (.inl (Nat.le_refl _))
  replace hS := hS.ext ho14
  replace hF := hF.ext ho14
  refine st (mvT rfl) ?_
  refine st (y_ext rfl rfl) ?_
  refine st (y_ext rfl rfl) ?_
  refine st (asP rfl) ?_
  refine st (asI rfl) ?_
  refine rg_end ?_
  refine n_then ?_
  refine wp_seq ?_
  refine wp_seq ?_
  refine rg ?_
  refine st (mvI rfl) ?_
  refine st (y_neq rfl rfl) ?_
  refine st (mvB rfl) ?_
  refine stg rfl rfl (by decide) (mvP rfl) ?_
  refine stg rfl rfl (by decide) (y_nilP ptr24 rfl rfl) ?_
  refine st (y_pickF rfl (by decide) (v := .bool _) rfl) ?_
  refine rg_end ?_
  refine n_then ?_
  refine cnd rfl (fun hc0 => absurd ((show (some (⟨bx, 0, none⟩ : Addr)).isNone = false from rfl).symm.trans hc0) (by decide)) (fun hc0 => ?_)
  refine wp_skip ?_
  refine n_then ?_
  refine wp_seq ?_
  refine rg ?_
  refine st (mvI rfl) ?_
  refine sc cl21 (keep_Pick_ok _ _ _ (by omega) (by omega)) rfl ?_
  rintro v23 w19 ⟨rfl, ho20⟩
  have hz24 := ho20.size
  replace hL0 := hL0.ext ho20
  replace hE := hE.step ho20 (.inl (Nat.le_refl _))
  replace hS := hS.ext ho20
  replace hF := hF.ext ho20
  replace hX := hX.ext ho20
  refine st (asI rfl) ?_
  refine rg_end ?_
  refine n_then ?_
  refine wp_seq ?_
  refine rg ?_
  refine st (mvI rfl) ?_
  refine sc cl21 (keep_Pick_ok _ _ _ (by omega) (by omega)) rfl ?_
  rintro v29 w25 ⟨rfl, ho26⟩
  have hz30 := ho26.size
  replace hL0 := hL0.ext ho26
  replace hE := hE.step ho26 (.inl (Nat.le_refl _))
  replace hS := hS.ext ho26
  replace hF := hF.ext ho26
  replace hX := hX.ext ho26
  refine st (asI rfl) ?_
  refine rg_end ?_
  refine n_then ?_
  refine wp_seq ?_
  refine rg ?_
  refine st (mvI rfl) ?_
  refine st (y_add rfl rfl (by omega)) ?_
  refine st (mvI rfl) ?_
  refine sc cl21 (keep_Pick_ok _ _ _ (by omega) (by omega)) rfl ?_
  rintro v35 w31 ⟨rfl, ho32⟩
  have hz36 := ho32.size
  replace hL0 := hL0.ext ho32
  replace hE := hE.step ho32 (.inl (Nat.le_refl _))
  replace hS := hS.ext ho32
  replace hF := hF.ext ho32
  replace hX := hX.ext ho32
  refine st (y_add rfl rfl (by omega)) ?_
  refine st (y_rem rfl rfl (by omega)) ?_
  refine st (asI rfl) ?_
  refine rg_end ?_
  refine n_then ?_
  refine wp_seq ?_
  refine rg ?_
  refine st (mvI rfl) ?_
  refine st (y_build (bld45_0_1 _ _ _) rfl) ?_
  refine sd (d_bs (bsl46_1 _ _ _) rfl ?_)
  intro b42 w37 hbb42 hs39 ho38 hb42
  have hO : Sl encLk 2 b42 (b42 + 1) w37 (some ⟨b42, 0, none⟩) [(⟨(pick r 3), -1⟩ : Lk)] := Blk.sl (l := [(⟨(pick r 3), -1⟩ : Lk)]) hb42 (fun _ => rfl) (Nat.le_refl _) (Nat.lt_succ_self _)
  have hz40 := ho38.size
  replace hL0 := hL0.ext ho38
  replace hE := hE.step ho38 (.inl (Nat.le_refl _))
  replace hS := hS.ext ho38
  replace hF := hF.ext ho38
  replace hX := hX.ext ho38
  refine st (asS rfl) ?_
  refine rg_end ?_
  refine n_then ?_
  refine wp_seq ?_
  refine wp_seq ?_
  refine rg ?_
  refine st (mvP rfl) ?_
  refine st (mvI rfl) ?_
  refine st (mvS rfl) ?_
  refine sc cl22 (ilk_Grant_ok _ _ _ _ (pick a 10) [(⟨(pick r 3), -1⟩ : Lk)] _ _ _ _ _ hX hI0 hO (by simp) (by omega) (by omega)) rfl ?_
  rintro v45 w41 ⟨rfl, hX, ho42⟩
  have hz46 := ho42.size
  replace hL0 := hL0.out ho42 (by first | omega | (simp only [blk_some, hi1_some] at *; omega))
  replace hE := hE.step ho42 (by first | omega | (simp only [blk_some, hi1_some] at *; omega))
  replace hS := hS.out ho42 (by first | omega | (simp only [blk_some, hi1_some] at *; omega))
  have hrnhF := hF.rng
  replace hF := hF.out ho42 (by first | omega | (simp only [blk_some, hi1_some] at *; omega))
  replace hO := hO.out ho42 (by first | omega | (simp only [blk_some, hi1_some] at *; omega))
  refine st (y_neq rfl rfl) ?_
  refine st (mvB rfl) ?_
  refine stg rfl rfl (decide_eq_false (not_not_intro q1)) (mvP rfl) ?_
  refine stg rfl rfl (decide_eq_false (not_not_intro q1)) (mvI rfl) ?_
  refine stg rfl rfl (decide_eq_false (not_not_intro q1)) (mvS rfl) ?_
  refine scg rfl rfl (decide_eq_false (not_not_intro q1)) cl22 (ilk_Grant_ok _ _ _ _ ((pick a 10 + 1 + pick b 9).tmod 10) [(⟨(pick r 3), -1⟩ : Lk)] _ _ _ _ _ hX hI1 hO (by simp) (by omega) (by omega)) rfl ?_
  rintro v51 w47 ⟨rfl, hX, ho48⟩
  rw [s2] at hX
  have hz52 := ho48.size
  replace hL0 := hL0.out ho48 (by first | omega | (simp only [blk_some, hi1_some] at *; omega))
  replace hE := hE.step ho48 (by first | omega | (simp only [blk_some, hi1_some] at *; omega))
  replace hS := hS.out ho48 (by first | omega | (simp only [blk_some, hi1_some] at *; omega))
  replace hF := hF.out ho48 (by first | omega | (simp only [blk_some, hi1_some] at *; omega))
  replace hO := hO.out ho48 (by first | omega | (simp only [blk_some, hi1_some] at *; omega))
  refine stg rfl rfl (decide_eq_false (not_not_intro q1)) (y_neq rfl rfl) ?_
  refine st (y_pickF rfl (decide_eq_false (not_not_intro q1)) (v := .bool _) rfl) ?_
  refine st (mvB rfl) ?_
  refine stg rfl rfl (decide_eq_false (not_not_intro q2)) (mvP rfl) ?_
  refine stg rfl rfl (decide_eq_false (not_not_intro q2)) (mvI rfl) ?_
  refine stg rfl rfl (decide_eq_false (not_not_intro q2)) (mvI rfl) ?_
  refine scg rfl rfl (decide_eq_false (not_not_intro q2)) cl25 (ilk_Free_ok _ _ _ _ ((pick a 10 + 1 + pick b 9).tmod 10) (pick r 3) _ hX hI1) rfl ?_
  rintro v57 w53 ⟨rfl, hX, ho54⟩
  rw [s3] at hX
  have hz58 := ho54.size
  replace hL0 := hL0.out ho54 (by first | omega | (simp only [blk_some, hi1_some] at *; omega))
  replace hE := hE.step ho54 (by first | omega | (simp only [blk_some, hi1_some] at *; omega))
  replace hS := hS.out ho54 (by first | omega | (simp only [blk_some, hi1_some] at *; omega))
  replace hF := hF.out ho54 (by first | omega | (simp only [blk_some, hi1_some] at *; omega))
  replace hO := hO.out ho54 (by first | omega | (simp only [blk_some, hi1_some] at *; omega))
  refine stg rfl rfl (decide_eq_false (not_not_intro q2)) (y_neq rfl rfl) ?_
  refine st (y_pickF rfl (decide_eq_false (not_not_intro q2)) (v := .bool _) rfl) ?_
  refine rg_end ?_
  refine n_then ?_
  refine cnd rfl (fun hc1 => absurd ((decide_eq_false (not_not_intro q3)).symm.trans hc1) (by decide)) (fun hc1 => ?_)
  refine wp_skip ?_
  refine n_then ?_
  refine wp_seq ?_
  refine rg ?_
  refine st (mvP rfl) ?_
  refine st (mvI rfl) ?_
  refine sc cl24 (ilk_Report_ok _ _ _ _ (pick r 3) 1 _ hX hI1) rfl ?_
  rintro v63 w59 ⟨rfl, hX, ho60⟩
  have hz64 := ho60.size
  replace hL0 := hL0.out ho60 (by first | omega | (simp only [blk_some, hi1_some] at *; omega))
  replace hE := hE.step ho60 (by first | omega | (simp only [blk_some, hi1_some] at *; omega))
  replace hS := hS.out ho60 (by first | omega | (simp only [blk_some, hi1_some] at *; omega))
  replace hF := hF.out ho60 (by first | omega | (simp only [blk_some, hi1_some] at *; omega))
  replace hO := hO.out ho60 (by first | omega | (simp only [blk_some, hi1_some] at *; omega))
  refine rg_end ?_
  refine n_then ?_
  refine wp_seq ?_
  refine wp_seq ?_
  refine rg ?_
  refine st (mvP rfl) ?_
  refine st (mvI rfl) ?_
  refine st (mvI rfl) ?_
  refine sc cl25 (ilk_Free_ok _ _ _ _ (pick a 10) (pick r 3) _ hX hI2) rfl ?_
  rintro v69 w65 ⟨rfl, hX, ho66⟩
  rw [s4] at hX
  have hz70 := ho66.size
  replace hL0 := hL0.out ho66 (by first | omega | (simp only [blk_some, hi1_some] at *; omega))
  replace hE := hE.step ho66 (by first | omega | (simp only [blk_some, hi1_some] at *; omega))
  replace hS := hS.out ho66 (by first | omega | (simp only [blk_some, hi1_some] at *; omega))
  replace hF := hF.out ho66 (by first | omega | (simp only [blk_some, hi1_some] at *; omega))
  replace hO := hO.out ho66 (by first | omega | (simp only [blk_some, hi1_some] at *; omega))
  refine st (y_neq rfl rfl) ?_
  refine st (mvB rfl) ?_
  refine stg rfl rfl (decide_eq_false (not_not_intro q4)) (mvP rfl) ?_
  refine stg rfl rfl (decide_eq_false (not_not_intro q4)) (mvI rfl) ?_
  refine stg rfl rfl (decide_eq_false (not_not_intro q4)) (mvS rfl) ?_
  refine scg rfl rfl (decide_eq_false (not_not_intro q4)) cl22 (ilk_Grant_ok _ _ _ _ (pick a 10) [(⟨(pick r 3), -1⟩ : Lk)] _ _ _ _ _ hX hI2 hO (by simp) (by omega) (by omega)) rfl ?_
  rintro v75 w71 ⟨rfl, hX, ho72⟩
  have hz76 := ho72.size
  replace hL0 := hL0.out ho72 (by first | omega | (simp only [blk_some, hi1_some] at *; omega))
  replace hE := hE.step ho72 (by first | omega | (simp only [blk_some, hi1_some] at *; omega))
  replace hS := hS.out ho72 (by first | omega | (simp only [blk_some, hi1_some] at *; omega))
  replace hF := hF.out ho72 (by first | omega | (simp only [blk_some, hi1_some] at *; omega))
  replace hO := hO.out ho72 (by first | omega | (simp only [blk_some, hi1_some] at *; omega))
  refine stg rfl rfl (decide_eq_false (not_not_intro q4)) (y_neq rfl rfl) ?_
  refine st (y_pickF rfl (decide_eq_false (not_not_intro q4)) (v := .bool _) rfl) ?_
  refine rg_end ?_
  refine n_then ?_
  refine cnd rfl (fun hc2 => absurd ((decide_eq_false (not_not_intro q5)).symm.trans hc2) (by decide)) (fun hc2 => ?_)
  refine wp_skip ?_
  refine n_then ?_
  refine wp_seq ?_
  refine rg ?_
  refine st (mvP rfl) ?_
  refine st (mvI rfl) ?_
  refine sc cl24 (ilk_Report_ok _ _ _ _ (pick r 3) 0 _ hX hI3) rfl ?_
  rintro v81 w77 ⟨rfl, hX, ho78⟩
  have hz82 := ho78.size
  replace hL0 := hL0.out ho78 (by first | omega | (simp only [blk_some, hi1_some] at *; omega))
  replace hE := hE.step ho78 (by first | omega | (simp only [blk_some, hi1_some] at *; omega))
  replace hS := hS.out ho78 (by first | omega | (simp only [blk_some, hi1_some] at *; omega))
  replace hF := hF.out ho78 (by first | omega | (simp only [blk_some, hi1_some] at *; omega))
  replace hO := hO.out ho78 (by first | omega | (simp only [blk_some, hi1_some] at *; omega))
  refine rg_end ?_
  refine n_then ?_
  refine wp_seq ?_
  refine rg ?_
  refine sc cl14 (law32_awake_ok _) rfl ?_
  rintro v87 w83 ⟨rfl, ho84⟩
  have hz88 := ho84.size
  replace hL0 := hL0.ext ho84
  replace hE := hE.step ho84 (.inl (Nat.le_refl _))
  replace hS := hS.ext ho84
  replace hF := hF.ext ho84
  replace hX := hX.ext ho84
  replace hO := hO.ext ho84
  refine st (mvB rfl) ?_
  refine stg rfl rfl rfl (mvP rfl) ?_
  refine stg rfl rfl rfl (mvI rfl) ?_
  refine stg rfl rfl rfl (mvI rfl) ?_
  refine scg rfl rfl rfl cl25 (ilk_Free_ok _ _ _ _ (pick a 10) (pick r 3) _ hX hI4) rfl ?_
  rintro v93 w89 ⟨rfl, hX, ho90⟩
  have hz94 := ho90.size
  replace hL0 := hL0.out ho90 (by first | omega | (simp only [blk_some, hi1_some] at *; omega))
  replace hE := hE.step ho90 (by first | omega | (simp only [blk_some, hi1_some] at *; omega))
  replace hS := hS.out ho90 (by first | omega | (simp only [blk_some, hi1_some] at *; omega))
  replace hF := hF.out ho90 (by first | omega | (simp only [blk_some, hi1_some] at *; omega))
  replace hO := hO.out ho90 (by first | omega | (simp only [blk_some, hi1_some] at *; omega))
  refine stg rfl rfl rfl (y_eql rfl rfl) ?_
  refine st (y_pickT rfl rfl (v := .bool _) rfl) ?_
  refine st (mvB rfl) ?_
  refine stg rfl rfl (decide_eq_true q6) (mvP rfl) ?_
  refine stg rfl rfl (decide_eq_true q6) (mvI rfl) ?_
  refine stg rfl rfl (decide_eq_true q6) (mvS rfl) ?_
  refine scg rfl rfl (decide_eq_true q6) cl22 (ilk_Grant_ok _ _ _ _ ((pick a 10 + 1 + pick b 9).tmod 10) [(⟨(pick r 3), -1⟩ : Lk)] _ _ _ _ _ hX hI5 hO (by simp) (by omega) (by omega)) rfl ?_
  rintro v99 w95 ⟨rfl, hX, ho96⟩
  have hz100 := ho96.size
  replace hL0 := hL0.out ho96 (by first | omega | (simp only [blk_some, hi1_some] at *; omega))
  replace hE := hE.step ho96 (by first | omega | (simp only [blk_some, hi1_some] at *; omega))
  replace hS := hS.out ho96 (by first | omega | (simp only [blk_some, hi1_some] at *; omega))
  replace hF := hF.out ho96 (by first | omega | (simp only [blk_some, hi1_some] at *; omega))
  replace hO := hO.out ho96 (by first | omega | (simp only [blk_some, hi1_some] at *; omega))
  refine stg rfl rfl (decide_eq_true q6) (y_eql rfl rfl) ?_
  refine st (y_pickT rfl (decide_eq_true q6) (v := .bool _) rfl) ?_
  refine st (mvB rfl) ?_
  refine stg rfl rfl (decide_eq_true q7) (mvP rfl) ?_
  refine stg rfl rfl (decide_eq_true q7) (mvI rfl) ?_
  refine scg rfl rfl (decide_eq_true q7) cl18 (ilk_Holder_ok _ _ _ _ (pick r 3) _ hX hI6) rfl ?_
  rintro v105 w101 ⟨rfl, ho102⟩
  have hz106 := ho102.size
  replace hL0 := hL0.ext ho102
  replace hE := hE.step ho102 (.inl (Nat.le_refl _))
  replace hS := hS.ext ho102
  replace hF := hF.ext ho102
  replace hX := hX.ext ho102
  replace hO := hO.ext ho102
  refine stg rfl rfl (decide_eq_true q7) (mvI rfl) ?_
  refine stg rfl rfl (decide_eq_true q7) (y_eql rfl rfl) ?_
  refine st (y_pickT rfl (decide_eq_true q7) (v := .bool _) rfl) ?_
  refine st (mvB rfl) ?_
  refine stg rfl rfl (decide_eq_true q8) (mvP rfl) ?_
  refine stg rfl rfl (decide_eq_true q8) (mvI rfl) ?_
  refine scg rfl rfl (decide_eq_true q8) cl27 (ilk_Held_ok _ _ _ _ ((pick a 10 + 1 + pick b 9).tmod 10) _ hX hI6) rfl ?_
  rintro v111 w107 ⟨ah, ch, rfl, hH, ho108⟩
  rw [q9] at hH ⊢
  have hz112 := ho108.size
  replace hL0 := hL0.ext ho108
  replace hE := hE.step ho108 (.inl (Nat.le_refl _))
  replace hS := hS.ext ho108
  replace hF := hF.ext ho108
  replace hX := hX.ext ho108
  replace hO := hO.ext ho108
  refine stg rfl rfl (decide_eq_true q8) (mvI rfl) ?_
  refine sdg rfl rfl (decide_eq_true q8) (d_bs (bsl23_1 _ _) rfl ?_)
  intro b107 w113 hbb107 hs115 ho114 hb107
  have hK : Sl encI 1 b107 (b107 + 1) w113 (some ⟨b107, 0, none⟩) [((pick r 3) : Int)] := Blk.sl (l := [((pick r 3) : Int)]) hb107 (fun _ => rfl) (Nat.le_refl _) (Nat.lt_succ_self _)
  have hz116 := ho114.size
  replace hL0 := hL0.ext ho114
  replace hE := hE.step ho114 (.inl (Nat.le_refl _))
  replace hS := hS.ext ho114
  replace hF := hF.ext ho114
  replace hX := hX.ext ho114
  replace hO := hO.ext ho114
  replace hH := hH.ext ho114
  refine scg rfl rfl (decide_eq_true q8) cl26 (keep_Same_int_ok [(pick r 3)] [(pick r 3)] _ _ _ _ _ _ _ _ _ hH hK (by simp)) rfl ?_
  rintro v121 w117 ⟨rfl, ho118⟩
  have hz122 := ho118.size
  replace hL0 := hL0.ext ho118
  replace hE := hE.step ho118 (.inl (Nat.le_refl _))
  replace hS := hS.ext ho118
  replace hF := hF.ext ho118
  replace hX := hX.ext ho118
  replace hO := hO.ext ho118
  replace hH := hH.ext ho118
  replace hK := hK.ext ho118
  refine st (y_pickT rfl (decide_eq_true q8) (v := .bool _) rfl) ?_
  refine st (asB rfl) ?_
  refine rg_end ?_
  refine n_then ?_
  refine wp_ret ?_
  refine ret1 (v := (.bool _)) Try.results6 rfl ?_
  exact ⟨vb (by simp), hE⟩
end Go.Proofs.Ytciljdhihnnfiaa
