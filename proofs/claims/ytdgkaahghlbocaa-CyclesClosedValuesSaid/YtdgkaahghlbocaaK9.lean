/-
  Walks of the functions, printed by a program out of the code and the loops' relations.
-/
import Derived.Test.YtdgkaahghlbocaaWkG
import Derived.Test.YtdgkaahghlbocaaProg
import Derived.KernelRfl
import Derived.Test.YtdgkaahghlbocaaK8
namespace Go.Proofs.Ytdgkaahghlbocaa
open Go.Wk Go.RowKit
set_option linter.unusedVariables false
set_option linter.unusedSimpArgs false
theorem cl14 : Callable Try.prog 14 := ⟨Try.call14⟩
theorem cl22 : Callable Try.prog 22 := ⟨Try.call22⟩

theorem wf_i64 {x : Int} (h : (Lit.int .i64 x).wf = true) : -9223372036854775808 ≤ x ∧ x ≤ 9223372036854775807 := by
  have h2 : decide (IntKind.i64.min ≤ x) = true ∧ decide (x ≤ IntKind.i64.max) = true := by simpa [Lit.wf] using h
  have e1 : IntKind.i64.min = -9223372036854775808 := by decide
  have e2 : IntKind.i64.max = 9223372036854775807 := by decide
  have h3 := of_decide_eq_true h2.1
  have h4 := of_decide_eq_true h2.2
  omega

set_option maxHeartbeats 4000000 in
set_option maxRecDepth 100000 in
theorem law12_CyclesSums_ok (a0 : Option Addr) (c0 : Nat) (l0 : List Int) (a1 : Option Addr) (c1 : Nat) (l1 : List Int) (a2 : Option Addr) (c2 : Nat) (l2 : List Int) (pk pos ww : Int) (w : World) (hL0 : Ints 0 w.heap.size w a0 l0) (hl0 : (l0.length : Int) ≤ 9223372036854775807) (hL1 : Ints 0 w.heap.size w a1 l1) (hl1 : (l1.length : Int) ≤ 9223372036854775807) (hL2 : Ints 0 w.heap.size w a2 l2) (hl2 : (l2.length : Int) ≤ 9223372036854775807) (hc2 : l2.length ≤ c2) (hww : -9223372036854775808 ≤ ww ∧ ww ≤ 9223372036854775807) : Cal Try.prog 4 [.slice a0 l0.length c0, .slice a1 l1.length c1, .slice a2 l2.length c2, .int .i64 pk, .int .i64 pos, .int .i64 ww] w (fun v w' => v = .bool true ∧ Ext w w') := by
  have hE : Out 0 0 w w := Out.refl _ _ w
  refine enter Try.func4 rfl Try.ntmps4 rfl ?_
  refine wp_seq ?_
  refine rg ?_
  refine st (asB rfl) ?_
  refine rg_end ?_
  refine n_then ?_
  refine wp_seq ?_
  refine rg ?_
  refine st (mvS rfl) ?_
  refine sc cl12 (keep_Network_ok _ _ _ _ _ _ hL0 hl0) rfl ?_
  rintro v5 w1 ⟨N, A, rfl, hsm, hev, hac, hdis, ho2⟩
  have hN : NetIn _ _ _ N A := ⟨Ow.sl hev, Ow.sl hac⟩
  clear hev hac
  have hok := hsm.1
  have hev1 := hok.ev
  have hac8 := hsm.2.2.2.2.2.1
  have hp2 := hsm.2.1
  have hp9 := hsm.2.2.1
  have hz6 := ho2.size
  replace hL0 := hL0.ext ho2
  replace hL1 := hL1.ext ho2
  replace hL2 := hL2.ext ho2
  replace hE := hE.step ho2 (.inl (Nat.le_refl _))
  refine sd (d_allocA zer26 ?_)
  intro b13 w7 hbb13 hs9 ho8 hb13
  have hz10 := ho8.size
  replace hL0 := hL0.ext ho8
  replace hL1 := hL1.ext ho8
  replace hL2 := hL2.ext ho8
  replace hE := hE.step ho8 (.inl (Nat.le_refl _))
  replace hN := hN.ext ho8
  refine sd0 (d_stN hb13 rfl rfl sz26 rfl rfl ?_)
  intro w11 hs13 ho12 hb13'
  clear hb13; have hb13 := hb13'; clear hb13'
  have hz14 := ho12.size
  replace hL0 := hL0.out ho12 (by first | omega | (simp only [blk_some, hi1_some] at *; omega))
  replace hL1 := hL1.out ho12 (by first | omega | (simp only [blk_some, hi1_some] at *; omega))
  replace hL2 := hL2.out ho12 (by first | omega | (simp only [blk_some, hi1_some] at *; omega))
  replace hE := hE.step ho12 (by first | omega | (simp only [blk_some, hi1_some] at *; omega))
  replace hN := hN.out ho12 (by first | omega | (simp only [blk_some, hi1_some] at *; omega))
  refine rg_end ?_
  refine n_then ?_
  refine wp_seq ?_
  refine rgD 7 (fun w_ => Ext w11 w_) (fun i => Nat.beq i 4) mixed (by kernel_rfl) ?_
  intro w15 ho16 hs17
  refine ⟨ho16, ?_⟩
  have hx18 := ho16
  refine tn rfl (fun _ hG => mvS rfl) ?_
  refine tn rfl (fun _ hG => y_fld fld26_2 rfl) ?_
  refine tn rfl (fun _ hG => y_lb (hb13.ext hG) na24 rfl rfl) ?_
  refine tn rfl (fun _ hG => y_len Try.underlying24 rfl) ?_
  refine tc rfl cl14 (law12_list_ok _ _ _ _ _ N.acts.length _ (hL2.ext hx18) hl2 (by omega)) rfl ?_
  rintro v23 w19 ⟨av, cv, vals, rfl, hVl, hvl, hvr, ho20⟩
  have hx24 := hx18.step ho20 (.inl (Nat.le_refl _))
  have hz25 := ho20.size
  refine ⟨hx24, ?_⟩
  refine tn rfl (fun _ hG => y_lbN (hb13.ext hG) agg26 rfl) ?_
  refine tn rfl (fun _ hG => mvS rfl) ?_
  refine t_end ?_
  have hz26 := hx24.size
  replace hL0 := hL0.ext hx24
  replace hL1 := hL1.ext hx24
  replace hL2 := hL2.ext hx24
  replace hE := hE.step hx24 (.inl (Nat.le_refl _))
  replace hN := hN.ext hx24
  replace hb13 := hb13.ext hx24
  refine sc cl20 (keep_Times_ok N A _ _ _ _ _ _ _ _ hN hL1 hl1 (by omega) (by omega)) rfl ?_
  rintro v31 w27 ⟨ax, cx, x, rfl, hX, hxl, hxr, ho28⟩
  have hz32 := ho28.size
  replace hL0 := hL0.ext ho28
  replace hL1 := hL1.ext ho28
  replace hL2 := hL2.ext ho28
  replace hE := hE.step ho28 (.inl (Nat.le_refl _))
  replace hN := hN.ext ho28
  replace hb13 := hb13.ext ho28
  replace hVl := hVl.ext ho28
  refine st (asS rfl) ?_
  refine st (asS rfl) ?_
  refine rg_end ?_
  refine n_then ?_
  refine wp_seq ?_
  refine rg ?_
  refine st (y_lbN hb13 agg26 rfl) ?_
  refine st (mvI rfl) ?_
  refine sc cl21 (law12_cycle_ok N A _ _ pk _ hN) rfl ?_
  rintro v37 w33 ⟨aa, ca, ag, cg, arcs, signs, b, rfl, hAr, hGr, hcy, ho34⟩
  have hz38 := ho34.size
  replace hL0 := hL0.ext ho34
  replace hL1 := hL1.ext ho34
  replace hL2 := hL2.ext ho34
  replace hE := hE.step ho34 (.inl (Nat.le_refl _))
  replace hN := hN.ext ho34
  replace hb13 := hb13.ext ho34
  replace hVl := hVl.ext ho34
  replace hX := hX.ext ho34
  refine st (mvT rfl) ?_
  refine st (y_ext rfl rfl) ?_
  refine st (y_ext rfl rfl) ?_
  refine sd (d_allocA zer37 ?_)
  intro b16 w39 hbb16 hs41 ho40 hb16
  have hz42 := ho40.size
  replace hL0 := hL0.ext ho40
  replace hL1 := hL1.ext ho40
  replace hL2 := hL2.ext ho40
  replace hE := hE.step ho40 (.inl (Nat.le_refl _))
  replace hN := hN.ext ho40
  replace hb13 := hb13.ext ho40
  replace hVl := hVl.ext ho40
  replace hX := hX.ext ho40
  replace hAr := hAr.ext ho40
  replace hGr := hGr.ext ho40
  refine sd0 (d_stN hb16 rfl rfl sz37 rfl rfl ?_)
  intro w43 hs45 ho44 hb16'
  clear hb16; have hb16 := hb16'; clear hb16'
  have hz46 := ho44.size
  replace hL0 := hL0.out ho44 (by first | omega | (simp only [blk_some, hi1_some] at *; omega))
  replace hL1 := hL1.out ho44 (by first | omega | (simp only [blk_some, hi1_some] at *; omega))
  replace hL2 := hL2.out ho44 (by first | omega | (simp only [blk_some, hi1_some] at *; omega))
  replace hE := hE.step ho44 (by first | omega | (simp only [blk_some, hi1_some] at *; omega))
  replace hN := hN.out ho44 (by first | omega | (simp only [blk_some, hi1_some] at *; omega))
  replace hb13 := hb13.out ho44 (by first | omega | (simp only [blk_some, hi1_some] at *; omega))
  replace hVl := hVl.out ho44 (by first | omega | (simp only [blk_some, hi1_some] at *; omega))
  replace hX := hX.out ho44 (by first | omega | (simp only [blk_some, hi1_some] at *; omega))
  replace hAr := hAr.out ho44 (by first | omega | (simp only [blk_some, hi1_some] at *; omega))
  replace hGr := hGr.out ho44 (by first | omega | (simp only [blk_some, hi1_some] at *; omega))
  refine st (asB rfl) ?_
  refine rg_end ?_
  refine n_then ?_
  refine wp_seq ?_
  refine wp_seq ?_
  refine rg ?_
  refine st (mvB rfl) ?_
  refine st (y_not rfl) ?_
  refine rg_end ?_
  refine n_then ?_
  refine cnd rfl (fun hc0 => ?_) (fun hc0 => ?_)
  ·
    try simp only [decide_eq_true_eq, decide_eq_false_iff_not, Bool.not_eq_true', Bool.not_eq_false', Bool.and_eq_true, Bool.or_eq_true, Bool.or_eq_false_iff, Bool.cond_true_right, Bool.cond_false_right, Bool.cond_true_left, Bool.cond_false_left, ne_eq, Decidable.not_not, bne_iff_ne, beq_iff_eq, beq_eq_false_iff_ne, Bool.not_true, Bool.not_false] at hc0
    refine wp_seq ?_
    refine rg ?_
    refine sc cl19 (law12_awake_ok _) rfl ?_
    rintro v51 w47 ⟨rfl, ho48⟩
    have hz52 := ho48.size
    replace hL0 := hL0.ext ho48
    replace hL1 := hL1.ext ho48
    replace hL2 := hL2.ext ho48
    replace hE := hE.step ho48 (.inl (Nat.le_refl _))
    replace hN := hN.ext ho48
    replace hb13 := hb13.ext ho48
    replace hVl := hVl.ext ho48
    replace hX := hX.ext ho48
    replace hAr := hAr.ext ho48
    replace hGr := hGr.ext ho48
    replace hb16 := hb16.ext ho48
    refine st (mvB rfl) ?_
    refine stg rfl rfl rfl (y_lbN hb13 agg26 rfl) ?_
    refine stg rfl rfl rfl (mvS rfl) ?_
    refine stg rfl rfl rfl (mvS rfl) ?_
    refine stg rfl rfl rfl (y_build (bld37_0_1 _ _ _ _ _ _ _) rfl) ?_
    refine stg rfl rfl rfl (mvS rfl) ?_
    refine stg rfl rfl rfl (mvS rfl) ?_
    refine scg rfl rfl rfl cl22 (law12_sums_ok N A _ _ l2 l1 _ _ _ _ _ _ _ _ vals _ _ _ _ x _ _ _ _ _ hN hL2 hc2 hL1 (by omega) hVl (by omega) hX) rfl ?_
    rintro v57 w53 ⟨rfl, ho54⟩
    have hz58 := ho54.size
    replace hL0 := hL0.ext ho54
    replace hL1 := hL1.ext ho54
    replace hL2 := hL2.ext ho54
    replace hE := hE.step ho54 (.inl (Nat.le_refl _))
    replace hN := hN.ext ho54
    replace hb13 := hb13.ext ho54
    replace hVl := hVl.ext ho54
    replace hX := hX.ext ho54
    replace hAr := hAr.ext ho54
    replace hGr := hGr.ext ho54
    replace hb16 := hb16.ext ho54
    refine st (y_pickT rfl rfl (v := .bool _) rfl) ?_
    refine st (asB rfl) ?_
    refine rg_end ?_
    refine n_then ?_
    refine wp_ret ?_
    refine r_then (ret1 (v := (.bool _)) Try.results4 rfl ?_)
    exact ⟨rfl, hE⟩
  ·
    try simp only [decide_eq_true_eq, decide_eq_false_iff_not, Bool.not_eq_true', Bool.not_eq_false', Bool.and_eq_true, Bool.or_eq_true, Bool.or_eq_false_iff, Bool.cond_true_right, Bool.cond_false_right, Bool.cond_true_left, Bool.cond_false_left, ne_eq, Decidable.not_not, bne_iff_ne, beq_iff_eq, beq_eq_false_iff_ne, Bool.not_true, Bool.not_false] at hc0
    obtain ⟨hc, hcap⟩ := hcy hc0
    have hcl := cy_len hc
    have hc2l := hc.len
    have hctw := hc.two
    obtain ⟨z6, hz6⟩ : ∃ z, z = w43.heap.size := ⟨_, rfl⟩
    refine wp_skip ?_
    refine n_then ?_
    refine wp_seq ?_
    refine rgP 8 (fun w_ => Ext w43 w_) (fun i => Nat.beq i 2 || Nat.beq i 5 || Nat.beq i 7) (.step 0 (.step 1 (.step 3 (.step 4 (.fork 2 (.fork 5 (.step 6 (.step 7 (.done))) (.fork 7 (.step 5 (.step 6 (.done))) (.last))) (.fork 7 (.step 2 (.step 5 (.step 6 (.done)))) (.last))))))) mixed (by kernel_rfl) ?_
    intro w59 ho60 hs61
    refine ⟨ho60, ?_⟩
    have hx62 := ho60
    refine p_step rfl ?_
    refine tn rfl (fun _ hG => y_fld fld37_0 rfl) ?_
    refine t_end ?_
    refine p_step rfl ?_
    refine tn rfl (fun _ hG => y_lb (hb16.ext hG) na22 rfl rfl) ?_
    refine t_end ?_
    refine p_step rfl ?_
    refine tn rfl (fun _ hG => y_fld fld37_1 rfl) ?_
    refine t_end ?_
    refine p_step rfl ?_
    refine tn rfl (fun _ hG => y_lb (hb16.ext hG) na22 rfl rfl) ?_
    refine t_end ?_
    refine p_fork ?_ ?_
    ·
      refine p_step rfl ?_
      have hdA := Ow.nil (E := 3) (sz := 1) (enc := encI) (lo := w59.heap.size) (hi := 0) (w := w59) (fun _ => rfl)
      have hrhdA := hdA.rng
      refine td rfl (d_appN (xs := arcs) hdA sl22 infoz3 (by decide) rfl rfl rfl (rfl) ((hAr.ext hx62)) (fun _ => rfl) (by simp; unfold maxLen; omega) (by simp; omega) (by omega) (by omega) ?_)
      intro ad2 cd2 w63 ho64 hdA'
      have hs65 := ho64.size
      clear hdA; have hdA := hdA'; clear hdA'
      replace ho64 : Ext _ _ := ho64
      have hx68 := hx62.step ho64 (.inl (Nat.le_refl _))
      have hz69 := ho64.size
      refine ⟨hx68, ?_⟩
      have hdAr := hdA.rng
      refine t_end ?_
      refine p_fork ?_ ?_
      ·
        refine p_step rfl ?_
        have hdS := Ow.nil (E := 3) (sz := 1) (enc := encI) (lo := w63.heap.size) (hi := 0) (w := w63) (fun _ => rfl)
        have hrhdS := hdS.rng
        refine td rfl (d_appN (xs := signs) hdS sl22 infoz3 (by decide) rfl rfl rfl (rfl) ((hGr.ext hx68)) (fun _ => rfl) (by simp; unfold maxLen; omega) (by simp; omega) (by omega) (by omega) ?_)
        intro ag2 cg2 w70 ho71 hdS'
        have hs72 := ho71.size
        clear hdS; have hdS := hdS'; clear hdS'
        replace ho71 : Ext _ _ := ho71
        have hx75 := hx68.step ho71 (.inl (Nat.le_refl _))
        have hz76 := ho71.size
        replace hdA := hdA.ext ho71
        refine ⟨hx75, ?_⟩
        have hdSr := hdS.rng
        refine t_end ?_
        refine p_step rfl ?_
        refine tn rfl (fun _ hG => y_build (bld37_0_1 _ _ _ _ _ _ _) rfl) ?_
        refine t_end ?_
        refine p_step rfl ?_
        refine td rfl (d_allocA zer37 ?_)
        intro b18 w77 hbb18 hs79 ho78 hb18
        have hx80 := hx75.step ho78 (.inl (Nat.le_refl _))
        have hz81 := ho78.size
        replace hdA := hdA.ext ho78
        replace hdS := hdS.ext ho78
        refine ⟨hx80, ?_⟩
        refine t_end ?_
        refine p_done ?_
        have hz82 := hx80.size
        replace hL0 := hL0.ext hx80
        replace hL1 := hL1.ext hx80
        replace hL2 := hL2.ext hx80
        replace hE := hE.step hx80 (.inl (Nat.le_refl _))
        replace hN := hN.ext hx80
        replace hb13 := hb13.ext hx80
        replace hVl := hVl.ext hx80
        replace hX := hX.ext hx80
        replace hAr := hAr.ext hx80
        replace hGr := hGr.ext hx80
        replace hb16 := hb16.ext hx80
        refine sd0 (d_stN hb18 rfl rfl sz37 rfl rfl ?_)
        intro w83 hs85 ho84 hb18'
        clear hb18; have hb18 := hb18'; clear hb18'
        have hz86 := ho84.size
        replace hL0 := hL0.out ho84 (by first | omega | (simp only [blk_some, hi1_some] at *; omega))
        replace hL1 := hL1.out ho84 (by first | omega | (simp only [blk_some, hi1_some] at *; omega))
        replace hL2 := hL2.out ho84 (by first | omega | (simp only [blk_some, hi1_some] at *; omega))
        replace hE := hE.step ho84 (by first | omega | (simp only [blk_some, hi1_some] at *; omega))
        replace hN := hN.out ho84 (by first | omega | (simp only [blk_some, hi1_some] at *; omega))
        replace hb13 := hb13.out ho84 (by first | omega | (simp only [blk_some, hi1_some] at *; omega))
        replace hVl := hVl.out ho84 (by first | omega | (simp only [blk_some, hi1_some] at *; omega))
        replace hX := hX.out ho84 (by first | omega | (simp only [blk_some, hi1_some] at *; omega))
        replace hAr := hAr.out ho84 (by first | omega | (simp only [blk_some, hi1_some] at *; omega))
        replace hGr := hGr.out ho84 (by first | omega | (simp only [blk_some, hi1_some] at *; omega))
        replace hb16 := hb16.out ho84 (by first | omega | (simp only [blk_some, hi1_some] at *; omega))
        have hrnhdA := hdA.rng
        replace hdA := hdA.out ho84 (by first | omega | (simp only [blk_some, hi1_some] at *; omega))
        have hrnhdS := hdS.rng
        replace hdS := hdS.out ho84 (by first | omega | (simp only [blk_some, hi1_some] at *; omega))
        simp only [List.nil_append] at hdA hdS hb18 ⊢
        have hdAr2 := hdA.rng
        have hdSr2 := hdS.rng
        obtain ⟨zc, hzc⟩ : ∃ z, z = w83.heap.size := ⟨_, rfl⟩
        refine rg_end ?_
        refine n_then ?_
        refine cut (γ := List Int × List Int) [18, 19, 55, 56, 57, 58, 59, 60, 61, 62, 63, 64, 65, 66, 67, 68, 69, 70, 71, 72, 73, 74, 75, 76, 77, 78, 79, 80, 81] (fun ⟨arcs2, signs2⟩ => [(18, .pointer (some ⟨b18, 0, none⟩))]) (fun ⟨arcs2, signs2⟩ w_ => Out z6 zc w83 w_ ∧ Ow 3 encI 1 z6 zc w_ ad2 cd2 arcs2 ∧ Ow 3 encI 1 z6 zc w_ ag2 cg2 signs2 ∧ Blk w_ b18 [.slice ad2 arcs2.length cd2, .slice ag2 signs2.length cg2] ∧ (arcs2.length : Int) ≤ 512 ∧ (signs2.length : Int) ≤ 512) ?_ ?_
        ·
          have hcut := Out.refl z6 zc w83
          refine wp_seq ?_
          refine rg ?_
          refine st (mvI rfl) ?_
          refine st (y_fld fld37_0 rfl) ?_
          refine st (y_lb hb18 na22 rfl rfl) ?_
          refine st (y_len Try.underlying22 rfl) ?_
          refine sc cl23 (keep_Pick_ok _ _ _ (by omega) (by omega)) rfl ?_
          rintro v91 w87 ⟨rfl, ho88⟩
          have hpk := pick_rng pos (arcs.length : Int) (by omega)
          have hz92 := ho88.size
          replace hL0 := hL0.ext ho88
          replace hL1 := hL1.ext ho88
          replace hL2 := hL2.ext ho88
          replace hE := hE.step ho88 (.inl (Nat.le_refl _))
          replace hN := hN.ext ho88
          replace hb13 := hb13.ext ho88
          replace hVl := hVl.ext ho88
          replace hX := hX.ext ho88
          replace hAr := hAr.ext ho88
          replace hGr := hGr.ext ho88
          replace hb16 := hb16.ext ho88
          replace hdA := hdA.ext ho88
          replace hdS := hdS.ext ho88
          replace hb18 := hb18.ext ho88
          replace hcut := hcut.step ho88 (.inl (Nat.le_refl _))
          refine st (asI rfl) ?_
          refine rg_end ?_
          refine n_then ?_
          refine wp_seq ?_
          refine rg ?_
          refine st (mvI rfl) ?_
          refine st (y_rem rfl rfl (by omega)) ?_
          refine st (y_eql rfl rfl) ?_
          refine rg_end ?_
          refine n_then ?_
          refine cnd rfl (fun hc1 => ?_) (fun hc1 => ?_)
          ·
            try simp only [decide_eq_true_eq, decide_eq_false_iff_not, Bool.not_eq_true', Bool.not_eq_false', Bool.and_eq_true, Bool.or_eq_true, Bool.or_eq_false_iff, Bool.cond_true_right, Bool.cond_false_right, Bool.cond_true_left, Bool.cond_false_left, ne_eq, Decidable.not_not, bne_iff_ne, beq_iff_eq, beq_eq_false_iff_ne, Bool.not_true, Bool.not_false] at hc1
            refine rgD 10 (fun w_ => Ext w87 w_) (fun i => Nat.beq i 9) mixed (by kernel_rfl) ?_
            intro w93 ho94 hs95
            refine ⟨ho94, ?_⟩
            have hx96 := ho94
            refine tn rfl (fun _ hG => y_fld fld37_0 rfl) ?_
            refine tn rfl (fun _ hG => y_lb (hb18.ext hG) na22 rfl rfl) ?_
            refine tn rfl (fun _ hG => mvI rfl) ?_
            refine tn rfl (fun _ hG => mvI rfl) ?_
            refine tn rfl (fun _ hG => y_quo rfl rfl (by omega) (by omega)) ?_
            refine tn rfl (fun _ hG => y_fld fld26_2 rfl) ?_
            refine tn rfl (fun _ hG => y_lb (hb13.ext hG) na24 rfl rfl) ?_
            refine tn rfl (fun _ hG => y_len Try.underlying24 rfl) ?_
            refine tn rfl (fun _ hG => y_add rfl rfl (by omega)) ?_
            refine tc rfl cl23 (keep_Pick_ok _ _ _ (by omega) (by omega)) rfl ?_
            rintro v101 w97 ⟨rfl, ho98⟩
            have hx102 := hx96.step ho98 (.inl (Nat.le_refl _))
            have hz103 := ho98.size
            refine ⟨hx102, ?_⟩
            refine t_end ?_
            have hz104 := hx102.size
            replace hL0 := hL0.ext hx102
            replace hL1 := hL1.ext hx102
            replace hL2 := hL2.ext hx102
            replace hE := hE.step hx102 (.inl (Nat.le_refl _))
            replace hN := hN.ext hx102
            replace hb13 := hb13.ext hx102
            replace hVl := hVl.ext hx102
            replace hX := hX.ext hx102
            replace hAr := hAr.ext hx102
            replace hGr := hGr.ext hx102
            replace hb16 := hb16.ext hx102
            replace hdA := hdA.ext hx102
            replace hdS := hdS.ext hx102
            replace hb18 := hb18.ext hx102
            replace hcut := hcut.step hx102 (.inl (Nat.le_refl _))
            refine st (y_ix hdA.sl sl22 rfl (rfl) rfl (by omega) (by omega)) ?_
            refine sd0 (d_se (j := 0) (e' := pick (ww.tdiv 2) ((N.acts.length : Int) + 1)) hdA sz3 rfl rfl rfl (by omega) (by omega) (Nat.le_of_ble_eq_true rfl) rfl ?_)
            intro w105 hs107 ho106 hdA'
            have hrhdA := hdA.rng
            clear hdA; have hdA := hdA'; clear hdA'
            have hz108 := ho106.size
            replace hL0 := hL0.out ho106 (by first | omega | (simp only [blk_some, hi1_some] at *; omega))
            replace hL1 := hL1.out ho106 (by first | omega | (simp only [blk_some, hi1_some] at *; omega))
            replace hL2 := hL2.out ho106 (by first | omega | (simp only [blk_some, hi1_some] at *; omega))
            replace hE := hE.step ho106 (by first | omega | (simp only [blk_some, hi1_some] at *; omega))
            replace hN := hN.out ho106 (by first | omega | (simp only [blk_some, hi1_some] at *; omega))
            replace hb13 := hb13.out ho106 (by first | omega | (simp only [blk_some, hi1_some] at *; omega))
            replace hVl := hVl.out ho106 (by first | omega | (simp only [blk_some, hi1_some] at *; omega))
            replace hX := hX.out ho106 (by first | omega | (simp only [blk_some, hi1_some] at *; omega))
            replace hAr := hAr.out ho106 (by first | omega | (simp only [blk_some, hi1_some] at *; omega))
            replace hGr := hGr.out ho106 (by first | omega | (simp only [blk_some, hi1_some] at *; omega))
            replace hb16 := hb16.out ho106 (by first | omega | (simp only [blk_some, hi1_some] at *; omega))
            replace hdS := hdS.out ho106 (by first | omega | (simp only [blk_some, hi1_some] at *; omega))
            replace hb18 := hb18.out ho106 (by first | omega | (simp only [blk_some, hi1_some] at *; omega))
            replace hcut := hcut.step ho106 (by first | omega | (simp only [blk_some, hi1_some] at *; omega))
            refine rg_end ?_
            exact n_then ⟨(_, _), _, rfl, same_lk rfl (same_rfl), ⟨rfl, trivial⟩, ⟨hcut, (hdA.lower (by omega)).wide (by omega), (hdS.lower (by omega)).wide (by omega), by simpa using hb18, by first | omega | (simp; omega), by first | omega | (simp; omega)⟩⟩
          ·
            try simp only [decide_eq_true_eq, decide_eq_false_iff_not, Bool.not_eq_true', Bool.not_eq_false', Bool.and_eq_true, Bool.or_eq_true, Bool.or_eq_false_iff, Bool.cond_true_right, Bool.cond_false_right, Bool.cond_true_left, Bool.cond_false_left, ne_eq, Decidable.not_not, bne_iff_ne, beq_iff_eq, beq_eq_false_iff_ne, Bool.not_true, Bool.not_false] at hc1
            refine rgD 7 (fun w_ => Ext w87 w_) (fun i => Nat.beq i 5) mixed (by kernel_rfl) ?_
            intro w109 ho110 hs111
            refine ⟨ho110, ?_⟩
            have hx112 := ho110
            refine tn rfl (fun _ hG => y_fld fld37_1 rfl) ?_
            refine tn rfl (fun _ hG => y_lb (hb18.ext hG) na22 rfl rfl) ?_
            refine tn rfl (fun _ hG => mvI rfl) ?_
            refine tn rfl (fun _ hG => mvI rfl) ?_
            refine tn rfl (fun _ hG => y_quo rfl rfl (by omega) (by omega)) ?_
            refine tc rfl cl23 (keep_Pick_ok _ _ _ (by omega) (by omega)) rfl ?_
            rintro v117 w113 ⟨rfl, ho114⟩
            have hpv := pick_rng (ww.tdiv 2) 4 (by omega)
            have hx118 := hx112.step ho114 (.inl (Nat.le_refl _))
            have hz119 := ho114.size
            refine ⟨hx118, ?_⟩
            refine tn rfl (fun _ hG => y_sub rfl rfl (by omega)) ?_
            refine t_end ?_
            have hz120 := hx118.size
            replace hL0 := hL0.ext hx118
            replace hL1 := hL1.ext hx118
            replace hL2 := hL2.ext hx118
            replace hE := hE.step hx118 (.inl (Nat.le_refl _))
            replace hN := hN.ext hx118
            replace hb13 := hb13.ext hx118
            replace hVl := hVl.ext hx118
            replace hX := hX.ext hx118
            replace hAr := hAr.ext hx118
            replace hGr := hGr.ext hx118
            replace hb16 := hb16.ext hx118
            replace hdA := hdA.ext hx118
            replace hdS := hdS.ext hx118
            replace hb18 := hb18.ext hx118
            replace hcut := hcut.step hx118 (.inl (Nat.le_refl _))
            refine st (y_ix hdS.sl sl22 rfl (rfl) rfl (by omega) (by omega)) ?_
            refine sd0 (d_se (j := 0) (e' := (pick (ww.tdiv 2) 4 - 2)) hdS sz3 rfl rfl rfl (by omega) (by omega) (Nat.le_of_ble_eq_true rfl) rfl ?_)
            intro w121 hs123 ho122 hdS'
            have hrhdS := hdS.rng
            clear hdS; have hdS := hdS'; clear hdS'
            have hz124 := ho122.size
            replace hL0 := hL0.out ho122 (by first | omega | (simp only [blk_some, hi1_some] at *; omega))
            replace hL1 := hL1.out ho122 (by first | omega | (simp only [blk_some, hi1_some] at *; omega))
            replace hL2 := hL2.out ho122 (by first | omega | (simp only [blk_some, hi1_some] at *; omega))
            replace hE := hE.step ho122 (by first | omega | (simp only [blk_some, hi1_some] at *; omega))
            replace hN := hN.out ho122 (by first | omega | (simp only [blk_some, hi1_some] at *; omega))
            replace hb13 := hb13.out ho122 (by first | omega | (simp only [blk_some, hi1_some] at *; omega))
            replace hVl := hVl.out ho122 (by first | omega | (simp only [blk_some, hi1_some] at *; omega))
            replace hX := hX.out ho122 (by first | omega | (simp only [blk_some, hi1_some] at *; omega))
            replace hAr := hAr.out ho122 (by first | omega | (simp only [blk_some, hi1_some] at *; omega))
            replace hGr := hGr.out ho122 (by first | omega | (simp only [blk_some, hi1_some] at *; omega))
            replace hb16 := hb16.out ho122 (by first | omega | (simp only [blk_some, hi1_some] at *; omega))
            replace hdA := hdA.out ho122 (by first | omega | (simp only [blk_some, hi1_some] at *; omega))
            replace hb18 := hb18.out ho122 (by first | omega | (simp only [blk_some, hi1_some] at *; omega))
            replace hcut := hcut.step ho122 (by first | omega | (simp only [blk_some, hi1_some] at *; omega))
            refine rg_end ?_
            exact n_then ⟨(_, _), _, rfl, same_lk rfl (same_rfl), ⟨rfl, trivial⟩, ⟨hcut, (hdA.lower (by omega)).wide (by omega), (hdS.lower (by omega)).wide (by omega), by simpa using hb18, by first | omega | (simp; omega), by first | omega | (simp; omega)⟩⟩
        ·
          rintro ⟨arcs2, signs2⟩ hav_ w125 ⟨ho126, hdA, hdS, hb18, hn2, hn3⟩
          have hz127 := ho126.size
          replace hL0 := hL0.out ho126 (by first | omega | (simp only [blk_some, hi1_some] at *; omega))
          replace hL1 := hL1.out ho126 (by first | omega | (simp only [blk_some, hi1_some] at *; omega))
          replace hL2 := hL2.out ho126 (by first | omega | (simp only [blk_some, hi1_some] at *; omega))
          replace hE := hE.step ho126 (by first | omega | (simp only [blk_some, hi1_some] at *; omega))
          replace hN := hN.out ho126 (by first | omega | (simp only [blk_some, hi1_some] at *; omega))
          replace hb13 := hb13.out ho126 (by first | omega | (simp only [blk_some, hi1_some] at *; omega))
          replace hVl := hVl.out ho126 (by first | omega | (simp only [blk_some, hi1_some] at *; omega))
          replace hX := hX.out ho126 (by first | omega | (simp only [blk_some, hi1_some] at *; omega))
          replace hAr := hAr.out ho126 (by first | omega | (simp only [blk_some, hi1_some] at *; omega))
          replace hGr := hGr.out ho126 (by first | omega | (simp only [blk_some, hi1_some] at *; omega))
          replace hb16 := hb16.out ho126 (by first | omega | (simp only [blk_some, hi1_some] at *; omega))
          refine wp_seq ?_
          refine rg ?_
          refine sc cl19 (law12_awake_ok _) rfl ?_
          rintro v132 w128 ⟨rfl, ho129⟩
          have hz133 := ho129.size
          replace hL0 := hL0.ext ho129
          replace hL1 := hL1.ext ho129
          replace hL2 := hL2.ext ho129
          replace hE := hE.step ho129 (.inl (Nat.le_refl _))
          replace hN := hN.ext ho129
          replace hb13 := hb13.ext ho129
          replace hVl := hVl.ext ho129
          replace hX := hX.ext ho129
          replace hAr := hAr.ext ho129
          replace hGr := hGr.ext ho129
          replace hb16 := hb16.ext ho129
          replace hdA := hdA.ext ho129
          replace hdS := hdS.ext ho129
          replace hb18 := hb18.ext ho129
          refine st (mvB rfl) ?_
          refine stg rfl rfl rfl (y_lbN hb13 agg26 rfl) ?_
          refine stg rfl rfl rfl (y_lbN hb16 agg37 rfl) ?_
          refine scg rfl rfl rfl cl24 (cycles_Check_ok N A _ _ arcs signs _ _ _ _ _ _ _ _ _ hN hAr hcap hGr (by omega)) rfl ?_
          rintro v138 w134 ⟨b1, rfl, hb1, ho135⟩
          have hbt : b1 = true := hb1.2 hc
          have hz139 := ho135.size
          replace hL0 := hL0.ext ho135
          replace hL1 := hL1.ext ho135
          replace hL2 := hL2.ext ho135
          replace hE := hE.step ho135 (.inl (Nat.le_refl _))
          replace hN := hN.ext ho135
          replace hb13 := hb13.ext ho135
          replace hVl := hVl.ext ho135
          replace hX := hX.ext ho135
          replace hAr := hAr.ext ho135
          replace hGr := hGr.ext ho135
          replace hb16 := hb16.ext ho135
          replace hdA := hdA.ext ho135
          replace hdS := hdS.ext ho135
          replace hb18 := hb18.ext ho135
          refine st (y_pickT rfl rfl (v := .bool _) rfl) ?_
          refine st (mvB rfl) ?_
          refine stg rfl rfl hbt (y_lbN hb13 agg26 rfl) ?_
          refine stg rfl rfl hbt (y_lbN hb16 agg37 rfl) ?_
          refine stg rfl rfl hbt (mvS rfl) ?_
          refine stg rfl rfl hbt (mvS rfl) ?_
          refine scg rfl rfl hbt cl22 (law12_sums_ok N A _ _ arcs signs _ _ _ _ _ _ _ _ vals _ _ _ _ x _ _ _ _ _ hN hAr hcap hGr (by omega) hVl (by omega) hX) rfl ?_
          rintro v144 w140 ⟨rfl, ho141⟩
          have hz145 := ho141.size
          replace hL0 := hL0.ext ho141
          replace hL1 := hL1.ext ho141
          replace hL2 := hL2.ext ho141
          replace hE := hE.step ho141 (.inl (Nat.le_refl _))
          replace hN := hN.ext ho141
          replace hb13 := hb13.ext ho141
          replace hVl := hVl.ext ho141
          replace hX := hX.ext ho141
          replace hAr := hAr.ext ho141
          replace hGr := hGr.ext ho141
          replace hb16 := hb16.ext ho141
          replace hdA := hdA.ext ho141
          replace hdS := hdS.ext ho141
          replace hb18 := hb18.ext ho141
          refine st (y_pickT rfl hbt (v := .bool _) rfl) ?_
          refine st (mvB rfl) ?_
          refine stg rfl rfl rfl (y_lbN hb13 agg26 rfl) ?_
          refine stg rfl rfl rfl (y_lbN hb18 agg37 rfl) ?_
          refine stg rfl rfl rfl (mvS rfl) ?_
          refine stg rfl rfl rfl (mvS rfl) ?_
          refine scg rfl rfl rfl cl22 (law12_sums_ok N A _ _ arcs2 signs2 _ _ _ _ _ _ _ _ vals _ _ _ _ x _ _ _ _ _ hN (Ow.sl hdA) hdA.lenLe (Ow.sl hdS) (by omega) hVl (by omega) hX) rfl ?_
          rintro v150 w146 ⟨rfl, ho147⟩
          have hz151 := ho147.size
          replace hL0 := hL0.ext ho147
          replace hL1 := hL1.ext ho147
          replace hL2 := hL2.ext ho147
          replace hE := hE.step ho147 (.inl (Nat.le_refl _))
          replace hN := hN.ext ho147
          replace hb13 := hb13.ext ho147
          replace hVl := hVl.ext ho147
          replace hX := hX.ext ho147
          replace hAr := hAr.ext ho147
          replace hGr := hGr.ext ho147
          replace hb16 := hb16.ext ho147
          replace hdA := hdA.ext ho147
          replace hdS := hdS.ext ho147
          replace hb18 := hb18.ext ho147
          refine st (y_pickT rfl rfl (v := .bool _) rfl) ?_
          refine st (asB rfl) ?_
          refine rg_end ?_
          refine n_then ?_
          refine wp_ret ?_
          refine ret1 (v := (.bool _)) Try.results4 rfl ?_
          exact ⟨rfl, hE⟩
      refine p_fork ?_ ?_
      ·
        refine p_step rfl ?_
        refine td rfl (d_allocA zer37 ?_)
        intro b18 w152 hbb18 hs154 ho153 hb18
        have hx155 := hx68.step ho153 (.inl (Nat.le_refl _))
        have hz156 := ho153.size
        replace hdA := hdA.ext ho153
        refine ⟨hx155, ?_⟩
        refine t_end ?_
        refine p_step rfl ?_
        have hdS := Ow.nil (E := 3) (sz := 1) (enc := encI) (lo := w152.heap.size) (hi := 0) (w := w152) (fun _ => rfl)
        have hrhdS := hdS.rng
        refine td rfl (d_appN (xs := signs) hdS sl22 infoz3 (by decide) rfl rfl rfl (rfl) ((hGr.ext hx155)) (fun _ => rfl) (by simp; unfold maxLen; omega) (by simp; omega) (by omega) (by omega) ?_)
        intro ag2 cg2 w157 ho158 hdS'
        have hs159 := ho158.size
        clear hdS; have hdS := hdS'; clear hdS'
        replace ho158 : Ext _ _ := ho158
        have hx162 := hx155.step ho158 (.inl (Nat.le_refl _))
        have hz163 := ho158.size
        replace hb18 := hb18.ext ho158
        replace hdA := hdA.ext ho158
        refine ⟨hx162, ?_⟩
        have hdSr := hdS.rng
        refine t_end ?_
        refine p_step rfl ?_
        refine tn rfl (fun _ hG => y_build (bld37_0_1 _ _ _ _ _ _ _) rfl) ?_
        refine t_end ?_
        refine p_done ?_
        have hz164 := hx162.size
        replace hL0 := hL0.ext hx162
        replace hL1 := hL1.ext hx162
        replace hL2 := hL2.ext hx162
        replace hE := hE.step hx162 (.inl (Nat.le_refl _))
        replace hN := hN.ext hx162
        replace hb13 := hb13.ext hx162
        replace hVl := hVl.ext hx162
        replace hX := hX.ext hx162
        replace hAr := hAr.ext hx162
        replace hGr := hGr.ext hx162
        replace hb16 := hb16.ext hx162
        refine sd0 (d_stN hb18 rfl rfl sz37 rfl rfl ?_)
        intro w165 hs167 ho166 hb18'
        clear hb18; have hb18 := hb18'; clear hb18'
        have hz168 := ho166.size
        replace hL0 := hL0.out ho166 (by first | omega | (simp only [blk_some, hi1_some] at *; omega))
        replace hL1 := hL1.out ho166 (by first | omega | (simp only [blk_some, hi1_some] at *; omega))
        replace hL2 := hL2.out ho166 (by first | omega | (simp only [blk_some, hi1_some] at *; omega))
        replace hE := hE.step ho166 (by first | omega | (simp only [blk_some, hi1_some] at *; omega))
        replace hN := hN.out ho166 (by first | omega | (simp only [blk_some, hi1_some] at *; omega))
        replace hb13 := hb13.out ho166 (by first | omega | (simp only [blk_some, hi1_some] at *; omega))
        replace hVl := hVl.out ho166 (by first | omega | (simp only [blk_some, hi1_some] at *; omega))
        replace hX := hX.out ho166 (by first | omega | (simp only [blk_some, hi1_some] at *; omega))
        replace hAr := hAr.out ho166 (by first | omega | (simp only [blk_some, hi1_some] at *; omega))
        replace hGr := hGr.out ho166 (by first | omega | (simp only [blk_some, hi1_some] at *; omega))
        replace hb16 := hb16.out ho166 (by first | omega | (simp only [blk_some, hi1_some] at *; omega))
        have hrnhdA := hdA.rng
        replace hdA := hdA.out ho166 (by first | omega | (simp only [blk_some, hi1_some] at *; omega))
        have hrnhdS := hdS.rng
        replace hdS := hdS.out ho166 (by first | omega | (simp only [blk_some, hi1_some] at *; omega))
        simp only [List.nil_append] at hdA hdS hb18 ⊢
        have hdAr2 := hdA.rng
        have hdSr2 := hdS.rng
        obtain ⟨zc, hzc⟩ : ∃ z, z = w165.heap.size := ⟨_, rfl⟩
        refine rg_end ?_
        refine n_then ?_
        refine cut (γ := List Int × List Int) [18, 19, 55, 56, 57, 58, 59, 60, 61, 62, 63, 64, 65, 66, 67, 68, 69, 70, 71, 72, 73, 74, 75, 76, 77, 78, 79, 80, 81] (fun ⟨arcs2, signs2⟩ => [(18, .pointer (some ⟨b18, 0, none⟩))]) (fun ⟨arcs2, signs2⟩ w_ => Out z6 zc w165 w_ ∧ Ow 3 encI 1 z6 zc w_ ad2 cd2 arcs2 ∧ Ow 3 encI 1 z6 zc w_ ag2 cg2 signs2 ∧ Blk w_ b18 [.slice ad2 arcs2.length cd2, .slice ag2 signs2.length cg2] ∧ (arcs2.length : Int) ≤ 512 ∧ (signs2.length : Int) ≤ 512) ?_ ?_
        ·
          have hcut := Out.refl z6 zc w165
          refine wp_seq ?_
          refine rg ?_
          refine st (mvI rfl) ?_
          refine st (y_fld fld37_0 rfl) ?_
          refine st (y_lb hb18 na22 rfl rfl) ?_
          refine st (y_len Try.underlying22 rfl) ?_
          refine sc cl23 (keep_Pick_ok _ _ _ (by omega) (by omega)) rfl ?_
          rintro v173 w169 ⟨rfl, ho170⟩
          have hpk := pick_rng pos (arcs.length : Int) (by omega)
          have hz174 := ho170.size
          replace hL0 := hL0.ext ho170
          replace hL1 := hL1.ext ho170
          replace hL2 := hL2.ext ho170
          replace hE := hE.step ho170 (.inl (Nat.le_refl _))
          replace hN := hN.ext ho170
          replace hb13 := hb13.ext ho170
          replace hVl := hVl.ext ho170
          replace hX := hX.ext ho170
          replace hAr := hAr.ext ho170
          replace hGr := hGr.ext ho170
          replace hb16 := hb16.ext ho170
          replace hdA := hdA.ext ho170
          replace hb18 := hb18.ext ho170
          replace hdS := hdS.ext ho170
          replace hcut := hcut.step ho170 (.inl (Nat.le_refl _))
          refine st (asI rfl) ?_
          refine rg_end ?_
          refine n_then ?_
          refine wp_seq ?_
          refine rg ?_
          refine st (mvI rfl) ?_
          refine st (y_rem rfl rfl (by omega)) ?_
          refine st (y_eql rfl rfl) ?_
          refine rg_end ?_
          refine n_then ?_
          refine cnd rfl (fun hc1 => ?_) (fun hc1 => ?_)
          ·
            try simp only [decide_eq_true_eq, decide_eq_false_iff_not, Bool.not_eq_true', Bool.not_eq_false', Bool.and_eq_true, Bool.or_eq_true, Bool.or_eq_false_iff, Bool.cond_true_right, Bool.cond_false_right, Bool.cond_true_left, Bool.cond_false_left, ne_eq, Decidable.not_not, bne_iff_ne, beq_iff_eq, beq_eq_false_iff_ne, Bool.not_true, Bool.not_false] at hc1
            refine rgD 10 (fun w_ => Ext w169 w_) (fun i => Nat.beq i 9) mixed (by kernel_rfl) ?_
            intro w175 ho176 hs177
            refine ⟨ho176, ?_⟩
            have hx178 := ho176
            refine tn rfl (fun _ hG => y_fld fld37_0 rfl) ?_
            refine tn rfl (fun _ hG => y_lb (hb18.ext hG) na22 rfl rfl) ?_
            refine tn rfl (fun _ hG => mvI rfl) ?_
            refine tn rfl (fun _ hG => mvI rfl) ?_
            refine tn rfl (fun _ hG => y_quo rfl rfl (by omega) (by omega)) ?_
            refine tn rfl (fun _ hG => y_fld fld26_2 rfl) ?_
            refine tn rfl (fun _ hG => y_lb (hb13.ext hG) na24 rfl rfl) ?_
            refine tn rfl (fun _ hG => y_len Try.underlying24 rfl) ?_
            refine tn rfl (fun _ hG => y_add rfl rfl (by omega)) ?_
            refine tc rfl cl23 (keep_Pick_ok _ _ _ (by omega) (by omega)) rfl ?_
            rintro v183 w179 ⟨rfl, ho180⟩
            have hx184 := hx178.step ho180 (.inl (Nat.le_refl _))
            have hz185 := ho180.size
            refine ⟨hx184, ?_⟩
            refine t_end ?_
            have hz186 := hx184.size
            replace hL0 := hL0.ext hx184
            replace hL1 := hL1.ext hx184
            replace hL2 := hL2.ext hx184
            replace hE := hE.step hx184 (.inl (Nat.le_refl _))
            replace hN := hN.ext hx184
            replace hb13 := hb13.ext hx184
            replace hVl := hVl.ext hx184
            replace hX := hX.ext hx184
            replace hAr := hAr.ext hx184
            replace hGr := hGr.ext hx184
            replace hb16 := hb16.ext hx184
            replace hdA := hdA.ext hx184
            replace hb18 := hb18.ext hx184
            replace hdS := hdS.ext hx184
            replace hcut := hcut.step hx184 (.inl (Nat.le_refl _))
            refine st (y_ix hdA.sl sl22 rfl (rfl) rfl (by omega) (by omega)) ?_
            refine sd0 (d_se (j := 0) (e' := pick (ww.tdiv 2) ((N.acts.length : Int) + 1)) hdA sz3 rfl rfl rfl (by omega) (by omega) (Nat.le_of_ble_eq_true rfl) rfl ?_)
            intro w187 hs189 ho188 hdA'
            have hrhdA := hdA.rng
            clear hdA; have hdA := hdA'; clear hdA'
            have hz190 := ho188.size
            replace hL0 := hL0.out ho188 (by first | omega | (simp only [blk_some, hi1_some] at *; omega))
            replace hL1 := hL1.out ho188 (by first | omega | (simp only [blk_some, hi1_some] at *; omega))
            replace hL2 := hL2.out ho188 (by first | omega | (simp only [blk_some, hi1_some] at *; omega))
            replace hE := hE.step ho188 (by first | omega | (simp only [blk_some, hi1_some] at *; omega))
            replace hN := hN.out ho188 (by first | omega | (simp only [blk_some, hi1_some] at *; omega))
            replace hb13 := hb13.out ho188 (by first | omega | (simp only [blk_some, hi1_some] at *; omega))
            replace hVl := hVl.out ho188 (by first | omega | (simp only [blk_some, hi1_some] at *; omega))
            replace hX := hX.out ho188 (by first | omega | (simp only [blk_some, hi1_some] at *; omega))
            replace hAr := hAr.out ho188 (by first | omega | (simp only [blk_some, hi1_some] at *; omega))
            replace hGr := hGr.out ho188 (by first | omega | (simp only [blk_some, hi1_some] at *; omega))
            replace hb16 := hb16.out ho188 (by first | omega | (simp only [blk_some, hi1_some] at *; omega))
            replace hb18 := hb18.out ho188 (by first | omega | (simp only [blk_some, hi1_some] at *; omega))
            replace hdS := hdS.out ho188 (by first | omega | (simp only [blk_some, hi1_some] at *; omega))
            replace hcut := hcut.step ho188 (by first | omega | (simp only [blk_some, hi1_some] at *; omega))
            refine rg_end ?_
            exact n_then ⟨(_, _), _, rfl, same_lk rfl (same_rfl), ⟨rfl, trivial⟩, ⟨hcut, (hdA.lower (by omega)).wide (by omega), (hdS.lower (by omega)).wide (by omega), by simpa using hb18, by first | omega | (simp; omega), by first | omega | (simp; omega)⟩⟩
          ·
            try simp only [decide_eq_true_eq, decide_eq_false_iff_not, Bool.not_eq_true', Bool.not_eq_false', Bool.and_eq_true, Bool.or_eq_true, Bool.or_eq_false_iff, Bool.cond_true_right, Bool.cond_false_right, Bool.cond_true_left, Bool.cond_false_left, ne_eq, Decidable.not_not, bne_iff_ne, beq_iff_eq, beq_eq_false_iff_ne, Bool.not_true, Bool.not_false] at hc1
            refine rgD 7 (fun w_ => Ext w169 w_) (fun i => Nat.beq i 5) mixed (by kernel_rfl) ?_
            intro w191 ho192 hs193
            refine ⟨ho192, ?_⟩
            have hx194 := ho192
            refine tn rfl (fun _ hG => y_fld fld37_1 rfl) ?_
            refine tn rfl (fun _ hG => y_lb (hb18.ext hG) na22 rfl rfl) ?_
            refine tn rfl (fun _ hG => mvI rfl) ?_
            refine tn rfl (fun _ hG => mvI rfl) ?_
            refine tn rfl (fun _ hG => y_quo rfl rfl (by omega) (by omega)) ?_
            refine tc rfl cl23 (keep_Pick_ok _ _ _ (by omega) (by omega)) rfl ?_
            rintro v199 w195 ⟨rfl, ho196⟩
            have hpv := pick_rng (ww.tdiv 2) 4 (by omega)
            have hx200 := hx194.step ho196 (.inl (Nat.le_refl _))
            have hz201 := ho196.size
            refine ⟨hx200, ?_⟩
            refine tn rfl (fun _ hG => y_sub rfl rfl (by omega)) ?_
            refine t_end ?_
            have hz202 := hx200.size
            replace hL0 := hL0.ext hx200
            replace hL1 := hL1.ext hx200
            replace hL2 := hL2.ext hx200
            replace hE := hE.step hx200 (.inl (Nat.le_refl _))
            replace hN := hN.ext hx200
            replace hb13 := hb13.ext hx200
            replace hVl := hVl.ext hx200
            replace hX := hX.ext hx200
            replace hAr := hAr.ext hx200
            replace hGr := hGr.ext hx200
            replace hb16 := hb16.ext hx200
            replace hdA := hdA.ext hx200
            replace hb18 := hb18.ext hx200
            replace hdS := hdS.ext hx200
            replace hcut := hcut.step hx200 (.inl (Nat.le_refl _))
            refine st (y_ix hdS.sl sl22 rfl (rfl) rfl (by omega) (by omega)) ?_
            refine sd0 (d_se (j := 0) (e' := (pick (ww.tdiv 2) 4 - 2)) hdS sz3 rfl rfl rfl (by omega) (by omega) (Nat.le_of_ble_eq_true rfl) rfl ?_)
            intro w203 hs205 ho204 hdS'
            have hrhdS := hdS.rng
            clear hdS; have hdS := hdS'; clear hdS'
            have hz206 := ho204.size
            replace hL0 := hL0.out ho204 (by first | omega | (simp only [blk_some, hi1_some] at *; omega))
            replace hL1 := hL1.out ho204 (by first | omega | (simp only [blk_some, hi1_some] at *; omega))
            replace hL2 := hL2.out ho204 (by first | omega | (simp only [blk_some, hi1_some] at *; omega))
            replace hE := hE.step ho204 (by first | omega | (simp only [blk_some, hi1_some] at *; omega))
            replace hN := hN.out ho204 (by first | omega | (simp only [blk_some, hi1_some] at *; omega))
            replace hb13 := hb13.out ho204 (by first | omega | (simp only [blk_some, hi1_some] at *; omega))
            replace hVl := hVl.out ho204 (by first | omega | (simp only [blk_some, hi1_some] at *; omega))
            replace hX := hX.out ho204 (by first | omega | (simp only [blk_some, hi1_some] at *; omega))
            replace hAr := hAr.out ho204 (by first | omega | (simp only [blk_some, hi1_some] at *; omega))
            replace hGr := hGr.out ho204 (by first | omega | (simp only [blk_some, hi1_some] at *; omega))
            replace hb16 := hb16.out ho204 (by first | omega | (simp only [blk_some, hi1_some] at *; omega))
            replace hdA := hdA.out ho204 (by first | omega | (simp only [blk_some, hi1_some] at *; omega))
            replace hb18 := hb18.out ho204 (by first | omega | (simp only [blk_some, hi1_some] at *; omega))
            replace hcut := hcut.step ho204 (by first | omega | (simp only [blk_some, hi1_some] at *; omega))
            refine rg_end ?_
            exact n_then ⟨(_, _), _, rfl, same_lk rfl (same_rfl), ⟨rfl, trivial⟩, ⟨hcut, (hdA.lower (by omega)).wide (by omega), (hdS.lower (by omega)).wide (by omega), by simpa using hb18, by first | omega | (simp; omega), by first | omega | (simp; omega)⟩⟩
        ·
          rintro ⟨arcs2, signs2⟩ hav_ w207 ⟨ho208, hdA, hdS, hb18, hn2, hn3⟩
          have hz209 := ho208.size
          replace hL0 := hL0.out ho208 (by first | omega | (simp only [blk_some, hi1_some] at *; omega))
          replace hL1 := hL1.out ho208 (by first | omega | (simp only [blk_some, hi1_some] at *; omega))
          replace hL2 := hL2.out ho208 (by first | omega | (simp only [blk_some, hi1_some] at *; omega))
          replace hE := hE.step ho208 (by first | omega | (simp only [blk_some, hi1_some] at *; omega))
          replace hN := hN.out ho208 (by first | omega | (simp only [blk_some, hi1_some] at *; omega))
          replace hb13 := hb13.out ho208 (by first | omega | (simp only [blk_some, hi1_some] at *; omega))
          replace hVl := hVl.out ho208 (by first | omega | (simp only [blk_some, hi1_some] at *; omega))
          replace hX := hX.out ho208 (by first | omega | (simp only [blk_some, hi1_some] at *; omega))
          replace hAr := hAr.out ho208 (by first | omega | (simp only [blk_some, hi1_some] at *; omega))
          replace hGr := hGr.out ho208 (by first | omega | (simp only [blk_some, hi1_some] at *; omega))
          replace hb16 := hb16.out ho208 (by first | omega | (simp only [blk_some, hi1_some] at *; omega))
          refine wp_seq ?_
          refine rg ?_
          refine sc cl19 (law12_awake_ok _) rfl ?_
          rintro v214 w210 ⟨rfl, ho211⟩
          have hz215 := ho211.size
          replace hL0 := hL0.ext ho211
          replace hL1 := hL1.ext ho211
          replace hL2 := hL2.ext ho211
          replace hE := hE.step ho211 (.inl (Nat.le_refl _))
          replace hN := hN.ext ho211
          replace hb13 := hb13.ext ho211
          replace hVl := hVl.ext ho211
          replace hX := hX.ext ho211
          replace hAr := hAr.ext ho211
          replace hGr := hGr.ext ho211
          replace hb16 := hb16.ext ho211
          replace hdA := hdA.ext ho211
          replace hdS := hdS.ext ho211
          replace hb18 := hb18.ext ho211
          refine st (mvB rfl) ?_
          refine stg rfl rfl rfl (y_lbN hb13 agg26 rfl) ?_
          refine stg rfl rfl rfl (y_lbN hb16 agg37 rfl) ?_
          refine scg rfl rfl rfl cl24 (cycles_Check_ok N A _ _ arcs signs _ _ _ _ _ _ _ _ _ hN hAr hcap hGr (by omega)) rfl ?_
          rintro v220 w216 ⟨b1, rfl, hb1, ho217⟩
          have hbt : b1 = true := hb1.2 hc
          have hz221 := ho217.size
          replace hL0 := hL0.ext ho217
          replace hL1 := hL1.ext ho217
          replace hL2 := hL2.ext ho217
          replace hE := hE.step ho217 (.inl (Nat.le_refl _))
          replace hN := hN.ext ho217
          replace hb13 := hb13.ext ho217
          replace hVl := hVl.ext ho217
          replace hX := hX.ext ho217
          replace hAr := hAr.ext ho217
          replace hGr := hGr.ext ho217
          replace hb16 := hb16.ext ho217
          replace hdA := hdA.ext ho217
          replace hdS := hdS.ext ho217
          replace hb18 := hb18.ext ho217
          refine st (y_pickT rfl rfl (v := .bool _) rfl) ?_
          refine st (mvB rfl) ?_
          refine stg rfl rfl hbt (y_lbN hb13 agg26 rfl) ?_
          refine stg rfl rfl hbt (y_lbN hb16 agg37 rfl) ?_
          refine stg rfl rfl hbt (mvS rfl) ?_
          refine stg rfl rfl hbt (mvS rfl) ?_
          refine scg rfl rfl hbt cl22 (law12_sums_ok N A _ _ arcs signs _ _ _ _ _ _ _ _ vals _ _ _ _ x _ _ _ _ _ hN hAr hcap hGr (by omega) hVl (by omega) hX) rfl ?_
          rintro v226 w222 ⟨rfl, ho223⟩
          have hz227 := ho223.size
          replace hL0 := hL0.ext ho223
          replace hL1 := hL1.ext ho223
          replace hL2 := hL2.ext ho223
          replace hE := hE.step ho223 (.inl (Nat.le_refl _))
          replace hN := hN.ext ho223
          replace hb13 := hb13.ext ho223
          replace hVl := hVl.ext ho223
          replace hX := hX.ext ho223
          replace hAr := hAr.ext ho223
          replace hGr := hGr.ext ho223
          replace hb16 := hb16.ext ho223
          replace hdA := hdA.ext ho223
          replace hdS := hdS.ext ho223
          replace hb18 := hb18.ext ho223
          refine st (y_pickT rfl hbt (v := .bool _) rfl) ?_
          refine st (mvB rfl) ?_
          refine stg rfl rfl rfl (y_lbN hb13 agg26 rfl) ?_
          refine stg rfl rfl rfl (y_lbN hb18 agg37 rfl) ?_
          refine stg rfl rfl rfl (mvS rfl) ?_
          refine stg rfl rfl rfl (mvS rfl) ?_
          refine scg rfl rfl rfl cl22 (law12_sums_ok N A _ _ arcs2 signs2 _ _ _ _ _ _ _ _ vals _ _ _ _ x _ _ _ _ _ hN (Ow.sl hdA) hdA.lenLe (Ow.sl hdS) (by omega) hVl (by omega) hX) rfl ?_
          rintro v232 w228 ⟨rfl, ho229⟩
          have hz233 := ho229.size
          replace hL0 := hL0.ext ho229
          replace hL1 := hL1.ext ho229
          replace hL2 := hL2.ext ho229
          replace hE := hE.step ho229 (.inl (Nat.le_refl _))
          replace hN := hN.ext ho229
          replace hb13 := hb13.ext ho229
          replace hVl := hVl.ext ho229
          replace hX := hX.ext ho229
          replace hAr := hAr.ext ho229
          replace hGr := hGr.ext ho229
          replace hb16 := hb16.ext ho229
          replace hdA := hdA.ext ho229
          replace hdS := hdS.ext ho229
          replace hb18 := hb18.ext ho229
          refine st (y_pickT rfl rfl (v := .bool _) rfl) ?_
          refine st (asB rfl) ?_
          refine rg_end ?_
          refine n_then ?_
          refine wp_ret ?_
          refine ret1 (v := (.bool _)) Try.results4 rfl ?_
          exact ⟨rfl, hE⟩
      exact p_last
    refine p_fork ?_ ?_
    ·
      refine p_step rfl ?_
      refine td rfl (d_allocA zer37 ?_)
      intro b18 w234 hbb18 hs236 ho235 hb18
      have hx237 := hx62.step ho235 (.inl (Nat.le_refl _))
      have hz238 := ho235.size
      refine ⟨hx237, ?_⟩
      refine t_end ?_
      refine p_step rfl ?_
      have hdA := Ow.nil (E := 3) (sz := 1) (enc := encI) (lo := w234.heap.size) (hi := 0) (w := w234) (fun _ => rfl)
      have hrhdA := hdA.rng
      refine td rfl (d_appN (xs := arcs) hdA sl22 infoz3 (by decide) rfl rfl rfl (rfl) ((hAr.ext hx237)) (fun _ => rfl) (by simp; unfold maxLen; omega) (by simp; omega) (by omega) (by omega) ?_)
      intro ad2 cd2 w239 ho240 hdA'
      have hs241 := ho240.size
      clear hdA; have hdA := hdA'; clear hdA'
      replace ho240 : Ext _ _ := ho240
      have hx244 := hx237.step ho240 (.inl (Nat.le_refl _))
      have hz245 := ho240.size
      replace hb18 := hb18.ext ho240
      refine ⟨hx244, ?_⟩
      have hdAr := hdA.rng
      refine t_end ?_
      refine p_step rfl ?_
      have hdS := Ow.nil (E := 3) (sz := 1) (enc := encI) (lo := w239.heap.size) (hi := 0) (w := w239) (fun _ => rfl)
      have hrhdS := hdS.rng
      refine td rfl (d_appN (xs := signs) hdS sl22 infoz3 (by decide) rfl rfl rfl (rfl) ((hGr.ext hx244)) (fun _ => rfl) (by simp; unfold maxLen; omega) (by simp; omega) (by omega) (by omega) ?_)
      intro ag2 cg2 w246 ho247 hdS'
      have hs248 := ho247.size
      clear hdS; have hdS := hdS'; clear hdS'
      replace ho247 : Ext _ _ := ho247
      have hx251 := hx244.step ho247 (.inl (Nat.le_refl _))
      have hz252 := ho247.size
      replace hb18 := hb18.ext ho247
      replace hdA := hdA.ext ho247
      refine ⟨hx251, ?_⟩
      have hdSr := hdS.rng
      refine t_end ?_
      refine p_step rfl ?_
      refine tn rfl (fun _ hG => y_build (bld37_0_1 _ _ _ _ _ _ _) rfl) ?_
      refine t_end ?_
      refine p_done ?_
      have hz253 := hx251.size
      replace hL0 := hL0.ext hx251
      replace hL1 := hL1.ext hx251
      replace hL2 := hL2.ext hx251
      replace hE := hE.step hx251 (.inl (Nat.le_refl _))
      replace hN := hN.ext hx251
      replace hb13 := hb13.ext hx251
      replace hVl := hVl.ext hx251
      replace hX := hX.ext hx251
      replace hAr := hAr.ext hx251
      replace hGr := hGr.ext hx251
      replace hb16 := hb16.ext hx251
      refine sd0 (d_stN hb18 rfl rfl sz37 rfl rfl ?_)
      intro w254 hs256 ho255 hb18'
      clear hb18; have hb18 := hb18'; clear hb18'
      have hz257 := ho255.size
      replace hL0 := hL0.out ho255 (by first | omega | (simp only [blk_some, hi1_some] at *; omega))
      replace hL1 := hL1.out ho255 (by first | omega | (simp only [blk_some, hi1_some] at *; omega))
      replace hL2 := hL2.out ho255 (by first | omega | (simp only [blk_some, hi1_some] at *; omega))
      replace hE := hE.step ho255 (by first | omega | (simp only [blk_some, hi1_some] at *; omega))
      replace hN := hN.out ho255 (by first | omega | (simp only [blk_some, hi1_some] at *; omega))
      replace hb13 := hb13.out ho255 (by first | omega | (simp only [blk_some, hi1_some] at *; omega))
      replace hVl := hVl.out ho255 (by first | omega | (simp only [blk_some, hi1_some] at *; omega))
      replace hX := hX.out ho255 (by first | omega | (simp only [blk_some, hi1_some] at *; omega))
      replace hAr := hAr.out ho255 (by first | omega | (simp only [blk_some, hi1_some] at *; omega))
      replace hGr := hGr.out ho255 (by first | omega | (simp only [blk_some, hi1_some] at *; omega))
      replace hb16 := hb16.out ho255 (by first | omega | (simp only [blk_some, hi1_some] at *; omega))
      have hrnhdA := hdA.rng
      replace hdA := hdA.out ho255 (by first | omega | (simp only [blk_some, hi1_some] at *; omega))
      have hrnhdS := hdS.rng
      replace hdS := hdS.out ho255 (by first | omega | (simp only [blk_some, hi1_some] at *; omega))
      simp only [List.nil_append] at hdA hdS hb18 ⊢
      have hdAr2 := hdA.rng
      have hdSr2 := hdS.rng
      obtain ⟨zc, hzc⟩ : ∃ z, z = w254.heap.size := ⟨_, rfl⟩
      refine rg_end ?_
      refine n_then ?_
      refine cut (γ := List Int × List Int) [18, 19, 55, 56, 57, 58, 59, 60, 61, 62, 63, 64, 65, 66, 67, 68, 69, 70, 71, 72, 73, 74, 75, 76, 77, 78, 79, 80, 81] (fun ⟨arcs2, signs2⟩ => [(18, .pointer (some ⟨b18, 0, none⟩))]) (fun ⟨arcs2, signs2⟩ w_ => Out z6 zc w254 w_ ∧ Ow 3 encI 1 z6 zc w_ ad2 cd2 arcs2 ∧ Ow 3 encI 1 z6 zc w_ ag2 cg2 signs2 ∧ Blk w_ b18 [.slice ad2 arcs2.length cd2, .slice ag2 signs2.length cg2] ∧ (arcs2.length : Int) ≤ 512 ∧ (signs2.length : Int) ≤ 512) ?_ ?_
      ·
        have hcut := Out.refl z6 zc w254
        refine wp_seq ?_
        refine rg ?_
        refine st (mvI rfl) ?_
        refine st (y_fld fld37_0 rfl) ?_
        refine st (y_lb hb18 na22 rfl rfl) ?_
        refine st (y_len Try.underlying22 rfl) ?_
        refine sc cl23 (keep_Pick_ok _ _ _ (by omega) (by omega)) rfl ?_
        rintro v262 w258 ⟨rfl, ho259⟩
        have hpk := pick_rng pos (arcs.length : Int) (by omega)
        have hz263 := ho259.size
        replace hL0 := hL0.ext ho259
        replace hL1 := hL1.ext ho259
        replace hL2 := hL2.ext ho259
        replace hE := hE.step ho259 (.inl (Nat.le_refl _))
        replace hN := hN.ext ho259
        replace hb13 := hb13.ext ho259
        replace hVl := hVl.ext ho259
        replace hX := hX.ext ho259
        replace hAr := hAr.ext ho259
        replace hGr := hGr.ext ho259
        replace hb16 := hb16.ext ho259
        replace hb18 := hb18.ext ho259
        replace hdA := hdA.ext ho259
        replace hdS := hdS.ext ho259
        replace hcut := hcut.step ho259 (.inl (Nat.le_refl _))
        refine st (asI rfl) ?_
        refine rg_end ?_
        refine n_then ?_
        refine wp_seq ?_
        refine rg ?_
        refine st (mvI rfl) ?_
        refine st (y_rem rfl rfl (by omega)) ?_
        refine st (y_eql rfl rfl) ?_
        refine rg_end ?_
        refine n_then ?_
        refine cnd rfl (fun hc1 => ?_) (fun hc1 => ?_)
        ·
          try simp only [decide_eq_true_eq, decide_eq_false_iff_not, Bool.not_eq_true', Bool.not_eq_false', Bool.and_eq_true, Bool.or_eq_true, Bool.or_eq_false_iff, Bool.cond_true_right, Bool.cond_false_right, Bool.cond_true_left, Bool.cond_false_left, ne_eq, Decidable.not_not, bne_iff_ne, beq_iff_eq, beq_eq_false_iff_ne, Bool.not_true, Bool.not_false] at hc1
          refine rgD 10 (fun w_ => Ext w258 w_) (fun i => Nat.beq i 9) mixed (by kernel_rfl) ?_
          intro w264 ho265 hs266
          refine ⟨ho265, ?_⟩
          have hx267 := ho265
          refine tn rfl (fun _ hG => y_fld fld37_0 rfl) ?_
          refine tn rfl (fun _ hG => y_lb (hb18.ext hG) na22 rfl rfl) ?_
          refine tn rfl (fun _ hG => mvI rfl) ?_
          refine tn rfl (fun _ hG => mvI rfl) ?_
          refine tn rfl (fun _ hG => y_quo rfl rfl (by omega) (by omega)) ?_
          refine tn rfl (fun _ hG => y_fld fld26_2 rfl) ?_
          refine tn rfl (fun _ hG => y_lb (hb13.ext hG) na24 rfl rfl) ?_
          refine tn rfl (fun _ hG => y_len Try.underlying24 rfl) ?_
          refine tn rfl (fun _ hG => y_add rfl rfl (by omega)) ?_
          refine tc rfl cl23 (keep_Pick_ok _ _ _ (by omega) (by omega)) rfl ?_
          rintro v272 w268 ⟨rfl, ho269⟩
          have hx273 := hx267.step ho269 (.inl (Nat.le_refl _))
          have hz274 := ho269.size
          refine ⟨hx273, ?_⟩
          refine t_end ?_
          have hz275 := hx273.size
          replace hL0 := hL0.ext hx273
          replace hL1 := hL1.ext hx273
          replace hL2 := hL2.ext hx273
          replace hE := hE.step hx273 (.inl (Nat.le_refl _))
          replace hN := hN.ext hx273
          replace hb13 := hb13.ext hx273
          replace hVl := hVl.ext hx273
          replace hX := hX.ext hx273
          replace hAr := hAr.ext hx273
          replace hGr := hGr.ext hx273
          replace hb16 := hb16.ext hx273
          replace hb18 := hb18.ext hx273
          replace hdA := hdA.ext hx273
          replace hdS := hdS.ext hx273
          replace hcut := hcut.step hx273 (.inl (Nat.le_refl _))
          refine st (y_ix hdA.sl sl22 rfl (rfl) rfl (by omega) (by omega)) ?_
          refine sd0 (d_se (j := 0) (e' := pick (ww.tdiv 2) ((N.acts.length : Int) + 1)) hdA sz3 rfl rfl rfl (by omega) (by omega) (Nat.le_of_ble_eq_true rfl) rfl ?_)
          intro w276 hs278 ho277 hdA'
          have hrhdA := hdA.rng
          clear hdA; have hdA := hdA'; clear hdA'
          have hz279 := ho277.size
          replace hL0 := hL0.out ho277 (by first | omega | (simp only [blk_some, hi1_some] at *; omega))
          replace hL1 := hL1.out ho277 (by first | omega | (simp only [blk_some, hi1_some] at *; omega))
          replace hL2 := hL2.out ho277 (by first | omega | (simp only [blk_some, hi1_some] at *; omega))
          replace hE := hE.step ho277 (by first | omega | (simp only [blk_some, hi1_some] at *; omega))
          replace hN := hN.out ho277 (by first | omega | (simp only [blk_some, hi1_some] at *; omega))
          replace hb13 := hb13.out ho277 (by first | omega | (simp only [blk_some, hi1_some] at *; omega))
          replace hVl := hVl.out ho277 (by first | omega | (simp only [blk_some, hi1_some] at *; omega))
          replace hX := hX.out ho277 (by first | omega | (simp only [blk_some, hi1_some] at *; omega))
          replace hAr := hAr.out ho277 (by first | omega | (simp only [blk_some, hi1_some] at *; omega))
          replace hGr := hGr.out ho277 (by first | omega | (simp only [blk_some, hi1_some] at *; omega))
          replace hb16 := hb16.out ho277 (by first | omega | (simp only [blk_some, hi1_some] at *; omega))
          replace hb18 := hb18.out ho277 (by first | omega | (simp only [blk_some, hi1_some] at *; omega))
          replace hdS := hdS.out ho277 (by first | omega | (simp only [blk_some, hi1_some] at *; omega))
          replace hcut := hcut.step ho277 (by first | omega | (simp only [blk_some, hi1_some] at *; omega))
          refine rg_end ?_
          exact n_then ⟨(_, _), _, rfl, same_lk rfl (same_rfl), ⟨rfl, trivial⟩, ⟨hcut, (hdA.lower (by omega)).wide (by omega), (hdS.lower (by omega)).wide (by omega), by simpa using hb18, by first | omega | (simp; omega), by first | omega | (simp; omega)⟩⟩
        ·
          try simp only [decide_eq_true_eq, decide_eq_false_iff_not, Bool.not_eq_true', Bool.not_eq_false', Bool.and_eq_true, Bool.or_eq_true, Bool.or_eq_false_iff, Bool.cond_true_right, Bool.cond_false_right, Bool.cond_true_left, Bool.cond_false_left, ne_eq, Decidable.not_not, bne_iff_ne, beq_iff_eq, beq_eq_false_iff_ne, Bool.not_true, Bool.not_false] at hc1
          refine rgD 7 (fun w_ => Ext w258 w_) (fun i => Nat.beq i 5) mixed (by kernel_rfl) ?_
          intro w280 ho281 hs282
          refine ⟨ho281, ?_⟩
          have hx283 := ho281
          refine tn rfl (fun _ hG => y_fld fld37_1 rfl) ?_
          refine tn rfl (fun _ hG => y_lb (hb18.ext hG) na22 rfl rfl) ?_
          refine tn rfl (fun _ hG => mvI rfl) ?_
          refine tn rfl (fun _ hG => mvI rfl) ?_
          refine tn rfl (fun _ hG => y_quo rfl rfl (by omega) (by omega)) ?_
          refine tc rfl cl23 (keep_Pick_ok _ _ _ (by omega) (by omega)) rfl ?_
          rintro v288 w284 ⟨rfl, ho285⟩
          have hpv := pick_rng (ww.tdiv 2) 4 (by omega)
          have hx289 := hx283.step ho285 (.inl (Nat.le_refl _))
          have hz290 := ho285.size
          refine ⟨hx289, ?_⟩
          refine tn rfl (fun _ hG => y_sub rfl rfl (by omega)) ?_
          refine t_end ?_
          have hz291 := hx289.size
          replace hL0 := hL0.ext hx289
          replace hL1 := hL1.ext hx289
          replace hL2 := hL2.ext hx289
          replace hE := hE.step hx289 (.inl (Nat.le_refl _))
          replace hN := hN.ext hx289
          replace hb13 := hb13.ext hx289
          replace hVl := hVl.ext hx289
          replace hX := hX.ext hx289
          replace hAr := hAr.ext hx289
          replace hGr := hGr.ext hx289
          replace hb16 := hb16.ext hx289
          replace hb18 := hb18.ext hx289
          replace hdA := hdA.ext hx289
          replace hdS := hdS.ext hx289
          replace hcut := hcut.step hx289 (.inl (Nat.le_refl _))
          refine st (y_ix hdS.sl sl22 rfl (rfl) rfl (by omega) (by omega)) ?_
          refine sd0 (d_se (j := 0) (e' := (pick (ww.tdiv 2) 4 - 2)) hdS sz3 rfl rfl rfl (by omega) (by omega) (Nat.le_of_ble_eq_true rfl) rfl ?_)
          intro w292 hs294 ho293 hdS'
          have hrhdS := hdS.rng
          clear hdS; have hdS := hdS'; clear hdS'
          have hz295 := ho293.size
          replace hL0 := hL0.out ho293 (by first | omega | (simp only [blk_some, hi1_some] at *; omega))
          replace hL1 := hL1.out ho293 (by first | omega | (simp only [blk_some, hi1_some] at *; omega))
          replace hL2 := hL2.out ho293 (by first | omega | (simp only [blk_some, hi1_some] at *; omega))
          replace hE := hE.step ho293 (by first | omega | (simp only [blk_some, hi1_some] at *; omega))
          replace hN := hN.out ho293 (by first | omega | (simp only [blk_some, hi1_some] at *; omega))
          replace hb13 := hb13.out ho293 (by first | omega | (simp only [blk_some, hi1_some] at *; omega))
          replace hVl := hVl.out ho293 (by first | omega | (simp only [blk_some, hi1_some] at *; omega))
          replace hX := hX.out ho293 (by first | omega | (simp only [blk_some, hi1_some] at *; omega))
          replace hAr := hAr.out ho293 (by first | omega | (simp only [blk_some, hi1_some] at *; omega))
          replace hGr := hGr.out ho293 (by first | omega | (simp only [blk_some, hi1_some] at *; omega))
          replace hb16 := hb16.out ho293 (by first | omega | (simp only [blk_some, hi1_some] at *; omega))
          replace hb18 := hb18.out ho293 (by first | omega | (simp only [blk_some, hi1_some] at *; omega))
          replace hdA := hdA.out ho293 (by first | omega | (simp only [blk_some, hi1_some] at *; omega))
          replace hcut := hcut.step ho293 (by first | omega | (simp only [blk_some, hi1_some] at *; omega))
          refine rg_end ?_
          exact n_then ⟨(_, _), _, rfl, same_lk rfl (same_rfl), ⟨rfl, trivial⟩, ⟨hcut, (hdA.lower (by omega)).wide (by omega), (hdS.lower (by omega)).wide (by omega), by simpa using hb18, by first | omega | (simp; omega), by first | omega | (simp; omega)⟩⟩
      ·
        rintro ⟨arcs2, signs2⟩ hav_ w296 ⟨ho297, hdA, hdS, hb18, hn2, hn3⟩
        have hz298 := ho297.size
        replace hL0 := hL0.out ho297 (by first | omega | (simp only [blk_some, hi1_some] at *; omega))
        replace hL1 := hL1.out ho297 (by first | omega | (simp only [blk_some, hi1_some] at *; omega))
        replace hL2 := hL2.out ho297 (by first | omega | (simp only [blk_some, hi1_some] at *; omega))
        replace hE := hE.step ho297 (by first | omega | (simp only [blk_some, hi1_some] at *; omega))
        replace hN := hN.out ho297 (by first | omega | (simp only [blk_some, hi1_some] at *; omega))
        replace hb13 := hb13.out ho297 (by first | omega | (simp only [blk_some, hi1_some] at *; omega))
        replace hVl := hVl.out ho297 (by first | omega | (simp only [blk_some, hi1_some] at *; omega))
        replace hX := hX.out ho297 (by first | omega | (simp only [blk_some, hi1_some] at *; omega))
        replace hAr := hAr.out ho297 (by first | omega | (simp only [blk_some, hi1_some] at *; omega))
        replace hGr := hGr.out ho297 (by first | omega | (simp only [blk_some, hi1_some] at *; omega))
        replace hb16 := hb16.out ho297 (by first | omega | (simp only [blk_some, hi1_some] at *; omega))
        refine wp_seq ?_
        refine rg ?_
        refine sc cl19 (law12_awake_ok _) rfl ?_
        rintro v303 w299 ⟨rfl, ho300⟩
        have hz304 := ho300.size
        replace hL0 := hL0.ext ho300
        replace hL1 := hL1.ext ho300
        replace hL2 := hL2.ext ho300
        replace hE := hE.step ho300 (.inl (Nat.le_refl _))
        replace hN := hN.ext ho300
        replace hb13 := hb13.ext ho300
        replace hVl := hVl.ext ho300
        replace hX := hX.ext ho300
        replace hAr := hAr.ext ho300
        replace hGr := hGr.ext ho300
        replace hb16 := hb16.ext ho300
        replace hdA := hdA.ext ho300
        replace hdS := hdS.ext ho300
        replace hb18 := hb18.ext ho300
        refine st (mvB rfl) ?_
        refine stg rfl rfl rfl (y_lbN hb13 agg26 rfl) ?_
        refine stg rfl rfl rfl (y_lbN hb16 agg37 rfl) ?_
        refine scg rfl rfl rfl cl24 (cycles_Check_ok N A _ _ arcs signs _ _ _ _ _ _ _ _ _ hN hAr hcap hGr (by omega)) rfl ?_
        rintro v309 w305 ⟨b1, rfl, hb1, ho306⟩
        have hbt : b1 = true := hb1.2 hc
        have hz310 := ho306.size
        replace hL0 := hL0.ext ho306
        replace hL1 := hL1.ext ho306
        replace hL2 := hL2.ext ho306
        replace hE := hE.step ho306 (.inl (Nat.le_refl _))
        replace hN := hN.ext ho306
        replace hb13 := hb13.ext ho306
        replace hVl := hVl.ext ho306
        replace hX := hX.ext ho306
        replace hAr := hAr.ext ho306
        replace hGr := hGr.ext ho306
        replace hb16 := hb16.ext ho306
        replace hdA := hdA.ext ho306
        replace hdS := hdS.ext ho306
        replace hb18 := hb18.ext ho306
        refine st (y_pickT rfl rfl (v := .bool _) rfl) ?_
        refine st (mvB rfl) ?_
        refine stg rfl rfl hbt (y_lbN hb13 agg26 rfl) ?_
        refine stg rfl rfl hbt (y_lbN hb16 agg37 rfl) ?_
        refine stg rfl rfl hbt (mvS rfl) ?_
        refine stg rfl rfl hbt (mvS rfl) ?_
        refine scg rfl rfl hbt cl22 (law12_sums_ok N A _ _ arcs signs _ _ _ _ _ _ _ _ vals _ _ _ _ x _ _ _ _ _ hN hAr hcap hGr (by omega) hVl (by omega) hX) rfl ?_
        rintro v315 w311 ⟨rfl, ho312⟩
        have hz316 := ho312.size
        replace hL0 := hL0.ext ho312
        replace hL1 := hL1.ext ho312
        replace hL2 := hL2.ext ho312
        replace hE := hE.step ho312 (.inl (Nat.le_refl _))
        replace hN := hN.ext ho312
        replace hb13 := hb13.ext ho312
        replace hVl := hVl.ext ho312
        replace hX := hX.ext ho312
        replace hAr := hAr.ext ho312
        replace hGr := hGr.ext ho312
        replace hb16 := hb16.ext ho312
        replace hdA := hdA.ext ho312
        replace hdS := hdS.ext ho312
        replace hb18 := hb18.ext ho312
        refine st (y_pickT rfl hbt (v := .bool _) rfl) ?_
        refine st (mvB rfl) ?_
        refine stg rfl rfl rfl (y_lbN hb13 agg26 rfl) ?_
        refine stg rfl rfl rfl (y_lbN hb18 agg37 rfl) ?_
        refine stg rfl rfl rfl (mvS rfl) ?_
        refine stg rfl rfl rfl (mvS rfl) ?_
        refine scg rfl rfl rfl cl22 (law12_sums_ok N A _ _ arcs2 signs2 _ _ _ _ _ _ _ _ vals _ _ _ _ x _ _ _ _ _ hN (Ow.sl hdA) hdA.lenLe (Ow.sl hdS) (by omega) hVl (by omega) hX) rfl ?_
        rintro v321 w317 ⟨rfl, ho318⟩
        have hz322 := ho318.size
        replace hL0 := hL0.ext ho318
        replace hL1 := hL1.ext ho318
        replace hL2 := hL2.ext ho318
        replace hE := hE.step ho318 (.inl (Nat.le_refl _))
        replace hN := hN.ext ho318
        replace hb13 := hb13.ext ho318
        replace hVl := hVl.ext ho318
        replace hX := hX.ext ho318
        replace hAr := hAr.ext ho318
        replace hGr := hGr.ext ho318
        replace hb16 := hb16.ext ho318
        replace hdA := hdA.ext ho318
        replace hdS := hdS.ext ho318
        replace hb18 := hb18.ext ho318
        refine st (y_pickT rfl rfl (v := .bool _) rfl) ?_
        refine st (asB rfl) ?_
        refine rg_end ?_
        refine n_then ?_
        refine wp_ret ?_
        refine ret1 (v := (.bool _)) Try.results4 rfl ?_
        exact ⟨rfl, hE⟩
    exact p_last
end Go.Proofs.Ytdgkaahghlbocaa
