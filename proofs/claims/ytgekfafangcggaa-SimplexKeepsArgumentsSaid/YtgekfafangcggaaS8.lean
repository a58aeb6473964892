/-
  Walks of the functions, printed by a program out of the code and the loops' relations.
-/
import Derived.Test.YtgekfafangcggaaWkH
import Derived.Test.YtgekfafangcggaaProg
import Derived.KernelRfl
import Derived.Test.YtgekfafangcggaaS7
namespace Go.Proofs.Ytgekfafangcggaa
open Go.Wk Go.RowKit
set_option linter.unusedVariables false
set_option linter.unusedSimpArgs false
set_option maxHeartbeats 2000000 in
set_option maxRecDepth 100000 in
theorem simplex_Solve_ok (N : Net) (A : NetA) (lo hi : Nat) (tree : List Int) (ar : Option Addr) (cr lr hr_ : Nat) (t : List Int) (at_ : Option Addr) (ct : Nat) (lt ht : Nat) (B : Int) (w : World) (hN : NetIn lo hi w N A) (hTr : Ints lr hr_ w ar tree) (htn : (tree.length : Int) ≤ 9223372036854775807) (hT : Ints lt ht w at_ t)  : Cal Try.prog 25 [netV N A, .slice ar tree.length cr, .slice at_ t.length ct, .int .i64 B] w (fun v w' => ∃ af cf f a1 c1 y mv e, v = .tuple #[.slice af f.length cf, .slice a1 y.length c1, .int .i64 mv, .int .i64 e] ∧ Ow 3 Wk.encI 1 w.heap.size w'.heap.size w' af cf f ∧ Ow 3 Wk.encI 1 w.heap.size w'.heap.size w' a1 c1 y ∧ (hi1 a1 ≤ blk af ∨ hi1 af ≤ blk a1) ∧ SmR N tree t B f y mv e ∧ Ext w w') := by
  replace hN := hN.full
  replace hTr := Ints.full hTr
  replace hT := Ints.full hT
  have hE : Out 0 0 w w := Out.refl _ _ w
  refine enter Try.func25 rfl Try.ntmps25 rfl ?_
  refine wp_seq ?_
  refine rg ?_
  refine sd (d_boxA rfl ?_)
  intro b4 w1 hbb4 hs3 ho2 hb4
  have hz4 := ho2.size
  replace hN := hN.ext ho2
  replace hTr := hTr.ext ho2
  replace hT := hT.ext ho2
  replace hE := hE.step ho2 (.inl (Nat.le_refl _))
  refine st (asS rfl) ?_
  refine st (asS rfl) ?_
  refine st (asI rfl) ?_
  refine st (asI rfl) ?_
  refine rg_end ?_
  refine n_then ?_
  refine wp_seq ?_
  refine wp_seq ?_
  refine rg ?_
  refine st (y_lbN hb4 agg26 rfl) ?_
  refine st (mvS rfl) ?_
  refine st (mvS rfl) ?_
  refine sc cl41 (simplex_check_ok N A _ _ tree _ _ _ _ t _ _ _ _ _ hN hTr htn hT) rfl ?_
  rintro v9 w5 ⟨e0, rfl, hch, ho6⟩
  have hz10 := ho6.size
  replace hN := hN.ext ho6
  replace hTr := hTr.ext ho6
  replace hT := hT.ext ho6
  replace hE := hE.step ho6 (.inl (Nat.le_refl _))
  replace hb4 := hb4.ext ho6
  refine st (asI rfl) ?_
  refine rg_end ?_
  refine n_then ?_
  refine wp_seq ?_
  refine rg ?_
  refine st (mvI rfl) ?_
  refine st (y_neq rfl rfl) ?_
  refine rg_end ?_
  refine n_then ?_
  refine cnd rfl (fun hc0 => ?_) (fun hc0 => ?_)
  ·
    try simp only [decide_eq_true_eq, decide_eq_false_iff_not, Bool.not_eq_true', Bool.not_eq_false', Bool.and_eq_true, Bool.or_eq_true, Bool.or_eq_false_iff, Bool.cond_true_right, Bool.cond_false_right, Bool.cond_true_left, Bool.cond_false_left, ne_eq, Decidable.not_not, bne_iff_ne, beq_iff_eq, beq_eq_false_iff_ne, Bool.not_true, Bool.not_false] at hc0
    have hno : ¬ (FoOk N tree ∧ feas N t = true) := by
      rcases hch with h | h
      · exact absurd h.1 hc0
      · exact h.2
    have he1 : e0 = 1 := by
      rcases hch with h | h
      · exact absurd h.1 hc0
      · exact h.1
    subst he1
    refine wp_seq ?_
    refine rg ?_
    refine st (mvI rfl) ?_
    refine st (asS rfl) ?_
    refine st (asS rfl) ?_
    refine st (asI rfl) ?_
    refine st (asI rfl) ?_
    refine rg_end ?_
    refine n_then ?_
    refine wp_ret ?_
    refine r_then (ret4 (v := (.slice _ _ _)) (v' := (.slice _ _ _)) (v'' := (.int .i64 _)) (v3 := (.int .i64 _)) Try.results25 rfl rfl rfl rfl ?_)
    exact ⟨none, 0, [], none, 0, [], 0, 1, rfl, Ow.nil (fun _ => rfl), Ow.nil (fun _ => rfl), .inl (by simp [hi1]), ⟨fun _ => ⟨rfl, rfl, rfl, rfl⟩, fun h1 h2 => absurd ⟨h1, h2⟩ hno, fun h1 h2 => absurd ⟨h1, h2⟩ hno⟩, hE⟩
  ·
    try simp only [decide_eq_true_eq, decide_eq_false_iff_not, Bool.not_eq_true', Bool.not_eq_false', Bool.and_eq_true, Bool.or_eq_true, Bool.or_eq_false_iff, Bool.cond_true_right, Bool.cond_false_right, Bool.cond_true_left, Bool.cond_false_left, ne_eq, Decidable.not_not, bne_iff_ne, beq_iff_eq, beq_eq_false_iff_ne, Bool.not_true, Bool.not_false] at hc0
    obtain ⟨hfo, hft⟩ : FoOk N tree ∧ feas N t = true := by
      rcases hch with h | h
      · exact h.2
      · omega
    have hok := hfo.ok
    have hac := hok.ac
    have hev := hok.ev
    have hfl := fo_len hfo
    have htl := (feas_iff.1 hft).1.len
    refine wp_skip ?_
    refine n_then ?_
    refine wp_seq ?_
    refine wp_seq ?_
    refine rg ?_
    refine st (mvI rfl) ?_
    refine st (y_lss rfl rfl) ?_
    refine st (mvB rfl) ?_
    refine gspL 26 rfl (fun hg11 => ?_) (fun hg11 => ?_)
    ·
      have hg11n := hg11; try simp only [decide_eq_true_eq, decide_eq_false_iff_not, Bool.not_eq_true', Bool.not_eq_false', Bool.and_eq_true, Bool.or_eq_true, Bool.or_eq_false_iff, Bool.cond_true_right, Bool.cond_false_right, Bool.cond_true_left, Bool.cond_false_left, ne_eq, Decidable.not_not, bne_iff_ne, beq_iff_eq, beq_eq_false_iff_ne, Bool.not_true, Bool.not_false] at hg11n
      refine sts rfl rfl hg11 ?_
      refine sts rfl rfl hg11 ?_
      refine st (y_pickT rfl hg11 (v := .bool _) rfl) ?_
      refine rg_end ?_
      refine n_then ?_
      refine cnd rfl (fun hc1 => ?_) (fun hc1 => absurd hc1 (by decide))
      have hnb : ¬ (0 ≤ B ∧ B ≤ 1048576) := by omega
      refine wp_seq ?_
      refine rg ?_
      refine st (asS rfl) ?_
      refine st (asS rfl) ?_
      refine st (asI rfl) ?_
      refine st (asI rfl) ?_
      refine rg_end ?_
      refine n_then ?_
      refine wp_ret ?_
      refine r_then (ret4 (v := (.slice _ _ _)) (v' := (.slice _ _ _)) (v'' := (.int .i64 _)) (v3 := (.int .i64 _)) Try.results25 rfl rfl rfl rfl ?_)
      exact ⟨none, 0, [], none, 0, [], 0, 4, rfl, Ow.nil (fun _ => rfl), Ow.nil (fun _ => rfl), .inl (by simp [hi1]), ⟨fun h => absurd ⟨hfo, hft⟩ h, fun _ _ _ => ⟨rfl, rfl, rfl, rfl⟩, fun _ _ h => absurd h hnb⟩, hE⟩
    ·
      have hg11n := hg11; try simp only [decide_eq_true_eq, decide_eq_false_iff_not, Bool.not_eq_true', Bool.not_eq_false', Bool.and_eq_true, Bool.or_eq_true, Bool.or_eq_false_iff, Bool.cond_true_right, Bool.cond_false_right, Bool.cond_true_left, Bool.cond_false_left, ne_eq, Decidable.not_not, bne_iff_ne, beq_iff_eq, beq_eq_false_iff_ne, Bool.not_true, Bool.not_false] at hg11n
      refine stg rfl rfl hg11 (mvI rfl) ?_
      refine stg rfl rfl hg11 (y_gtr rfl rfl) ?_
      refine st (y_pickF rfl hg11 (v := .bool _) rfl) ?_
      refine rg_end ?_
      refine n_then ?_
      refine cnd rfl (fun hc1 => ?_) (fun hc1 => ?_)
      ·
        try simp only [decide_eq_true_eq, decide_eq_false_iff_not, Bool.not_eq_true', Bool.not_eq_false', Bool.and_eq_true, Bool.or_eq_true, Bool.or_eq_false_iff, Bool.cond_true_right, Bool.cond_false_right, Bool.cond_true_left, Bool.cond_false_left, ne_eq, Decidable.not_not, bne_iff_ne, beq_iff_eq, beq_eq_false_iff_ne, Bool.not_true, Bool.not_false] at hc1
        have hnb : ¬ (0 ≤ B ∧ B ≤ 1048576) := by omega
        refine wp_seq ?_
        refine rg ?_
        refine st (asS rfl) ?_
        refine st (asS rfl) ?_
        refine st (asI rfl) ?_
        refine st (asI rfl) ?_
        refine rg_end ?_
        refine n_then ?_
        refine wp_ret ?_
        refine r_then (ret4 (v := (.slice _ _ _)) (v' := (.slice _ _ _)) (v'' := (.int .i64 _)) (v3 := (.int .i64 _)) Try.results25 rfl rfl rfl rfl ?_)
        exact ⟨none, 0, [], none, 0, [], 0, 4, rfl, Ow.nil (fun _ => rfl), Ow.nil (fun _ => rfl), .inl (by simp [hi1]), ⟨fun h => absurd ⟨hfo, hft⟩ h, fun _ _ _ => ⟨rfl, rfl, rfl, rfl⟩, fun _ _ h => absurd h hnb⟩, hE⟩
      ·
        try simp only [decide_eq_true_eq, decide_eq_false_iff_not, Bool.not_eq_true', Bool.not_eq_false', Bool.and_eq_true, Bool.or_eq_true, Bool.or_eq_false_iff, Bool.cond_true_right, Bool.cond_false_right, Bool.cond_true_left, Bool.cond_false_left, ne_eq, Decidable.not_not, bne_iff_ne, beq_iff_eq, beq_eq_false_iff_ne, Bool.not_true, Bool.not_false] at hc1
        have hB : 0 ≤ B ∧ B ≤ 1048576 := by omega
        obtain ⟨B', hB'⟩ : ∃ B' : Nat, B = (B' : Int) := Int.eq_ofNat_of_zero_le hB.1
        subst hB'
        refine wp_skip ?_
        refine n_then ?_
        refine wp_seq ?_
        refine rg ?_
        refine st (mvS rfl) ?_
        refine sc cl49 (clone_I_ok _ _ tree _ _ _ hTr (by omega)) rfl ?_
        rintro v16 w12 ⟨a1_, c1_, rfl, hC1, ho13⟩
        have hz17 := ho13.size
        replace hN := hN.ext ho13
        replace hTr := hTr.ext ho13
        replace hT := hT.ext ho13
        replace hE := hE.step ho13 (.inl (Nat.le_refl _))
        replace hb4 := hb4.ext ho13
        have hC1r := hC1.rng
        refine st (mvS rfl) ?_
        refine sc cl49 (clone_I_ok _ _ t _ _ _ hT (by omega)) rfl ?_
        rintro v22 w18 ⟨a2_, c2_, rfl, hC2, ho19⟩
        have hz23 := ho19.size
        replace hN := hN.ext ho19
        replace hTr := hTr.ext ho19
        replace hT := hT.ext ho19
        replace hE := hE.step ho19 (.inl (Nat.le_refl _))
        replace hb4 := hb4.ext ho19
        replace hC1 := hC1.ext ho19
        have hC2r := hC2.rng
        refine st (asS rfl) ?_
        refine st (asS rfl) ?_
        refine rg_end ?_
        refine n_then ?_
        refine wp_seq ?_
        refine rg ?_
        refine st (asI rfl) ?_
        refine rg_end ?_
        refine n_then ?_
        refine wp_seq ?_
        refine wp_block ?_
        refine lp (γ := Nat × List Int × List Int × Option Addr × Nat × Option Addr × Nat) [1, 2, 13, 14, 15, 16, 34, 35, 36, 37, 38, 39, 40, 41, 42, 43, 44, 45, 46, 47, 48, 49, 50, 51, 52, 53, 54, 55, 56, 57, 58, 59, 60, 61] (fun ⟨mv, tree2, t2, ar2, cr2, at2, ct2⟩ => [(13, .int .i64 (mv : Int)), (1, .slice ar2 tree2.length cr2), (2, .slice at2 t2.length ct2)]) (fun ⟨mv, tree2, t2, ar2, cr2, at2, ct2⟩ w_ => Ext w18 w_ ∧ (mv : Int) ≤ (B' : Int) ∧ FoOk N tree2 ∧ feas N t2 = true ∧ ((smF N B' tree t).1 = (smF N (B' - mv) tree2 t2).1 ∧ (smF N B' tree t).2.1 = (smF N (B' - mv) tree2 t2).2.1 ∧ (smF N B' tree t).2.2 = mv + (smF N (B' - mv) tree2 t2).2.2) ∧ Ow 3 Wk.encI 1 w.heap.size w_.heap.size w_ ar2 cr2 tree2 ∧ Ow 3 Wk.encI 1 w.heap.size w_.heap.size w_ at2 ct2 t2 ∧ (hi1 at2 ≤ blk ar2 ∨ hi1 ar2 ≤ blk at2)) (fun ⟨mv, tree2, t2, ar2, cr2, at2, ct2⟩ => B' - mv) (0, tree, t, a1_, c1_, a2_, c2_) ⟨rfl, rfl, rfl, trivial⟩ ⟨Out.refl _ _ _, by omega, hfo, hft, ⟨rfl, rfl, by simp⟩, (hC1.lower (by omega)).wide (by omega), (hC2.lower (by omega)).wide (by omega), by omega⟩ ?_
        rintro ⟨mv, tree2, t2, ar2, cr2, at2, ct2⟩ hav_ w24 ⟨ho25, hmB, hf2, hft2, hsm, hR, hX, hdj⟩
        have hlp0 := ho25
        have hz26 := ho25.size
        replace hN := hN.ext ho25
        replace hTr := hTr.ext ho25
        replace hT := hT.ext ho25
        replace hE := hE.step ho25 (.inl (Nat.le_refl _))
        replace hb4 := hb4.ext ho25
        refine wp_seq ?_
        refine wp_seq ?_
        refine rg ?_
        refine st (mvI rfl) ?_
        refine st (mvI rfl) ?_
        refine st (y_lss rfl rfl) ?_
        refine rg_end ?_
        refine n_then ?_
        refine cnd rfl (fun hc2 => ?_) (fun hc2 => ?_)
        ·
          try simp only [decide_eq_true_eq, decide_eq_false_iff_not, Bool.not_eq_true', Bool.not_eq_false', Bool.and_eq_true, Bool.or_eq_true, Bool.or_eq_false_iff, Bool.cond_true_right, Bool.cond_false_right, Bool.cond_true_left, Bool.cond_false_left, ne_eq, Decidable.not_not, bne_iff_ne, beq_iff_eq, beq_eq_false_iff_ne, Bool.not_true, Bool.not_false] at hc2
          have hfl2 := fo_len hf2
          refine wp_skip ?_
          refine n_then ?_
          refine wp_block ?_
          refine wp_seq ?_
          refine rg ?_
          refine st (y_lbN hb4 agg26 rfl) ?_
          refine st (mvS rfl) ?_
          refine st (mvS rfl) ?_
          refine sc cl50 (simplex_best_ok N A _ _ tree2 _ _ _ _ t2 _ _ _ _ _ hN (Ow.sl hR) (by omega) (Ow.sl hX) hf2 hft2) rfl ?_
          rintro v31 w27 ⟨rfl, ho28⟩
          have hz32 := ho28.size
          replace hN := hN.ext ho28
          replace hTr := hTr.ext ho28
          replace hT := hT.ext ho28
          replace hE := hE.step ho28 (.inl (Nat.le_refl _))
          replace hb4 := hb4.ext ho28
          replace hR := hR.ext ho28
          replace hX := hX.ext ho28
          replace hlp0 := hlp0.step ho28 (.inl (Nat.le_refl _))
          refine st (mvT rfl) ?_
          refine st (y_ext rfl rfl) ?_
          refine st (y_ext rfl rfl) ?_
          refine st (y_ext rfl rfl) ?_
          refine st (asI rfl) ?_
          refine st (asI rfl) ?_
          refine st (asB rfl) ?_
          refine rg_end ?_
          refine n_then ?_
          refine wp_seq ?_
          refine wp_seq ?_
          refine rg ?_
          refine st (mvB rfl) ?_
          refine st (y_not rfl) ?_
          refine rg_end ?_
          refine n_then ?_
          refine cnd rfl (fun hc3 => ?_) (fun hc3 => ?_)
          ·
            try simp only [decide_eq_true_eq, decide_eq_false_iff_not, Bool.not_eq_true', Bool.not_eq_false', Bool.and_eq_true, Bool.or_eq_true, Bool.or_eq_false_iff, Bool.cond_true_right, Bool.cond_false_right, Bool.cond_true_left, Bool.cond_false_left, ne_eq, Decidable.not_not, bne_iff_ne, beq_iff_eq, beq_eq_false_iff_ne, Bool.not_true, Bool.not_false] at hc3
            have hsz := smF_stop (N := N) (B := B') (mv := mv) (tr := tree2) (t := t2) (by rw [hc3]; decide)
            refine wp_exit ?_
            refine e_then (e_blk' rfl (e_then (e_blk (?_))))
            refine n_then ?_
            refine wp_seq ?_
            refine rg ?_
            refine st (mvS rfl) ?_
            refine st (mvS rfl) ?_
            refine st (mvI rfl) ?_
            refine st (asS rfl) ?_
            refine st (asS rfl) ?_
            refine st (asI rfl) ?_
            refine st (asI rfl) ?_
            refine rg_end ?_
            refine n_then ?_
            refine wp_ret ?_
            refine ret4 (v := (.slice _ _ _)) (v' := (.slice _ _ _)) (v'' := (.int .i64 _)) (v3 := (.int .i64 _)) Try.results25 rfl rfl rfl rfl ?_
            rw [hsz] at hsm
            exact ⟨_, _, tree2, _, _, t2, _, 0, rfl, (hR.lower (by omega)).wide (by omega), (hX.lower (by omega)).wide (by omega), hdj, ⟨fun h => absurd ⟨hfo, hft⟩ h, fun _ _ h => absurd hB h, fun _ _ _ => ⟨hsm.1.symm, hsm.2.1.symm, by have := hsm.2.2; simp only [Nat.add_zero] at this; rw [Int.toNat_natCast, this], rfl⟩⟩, hE⟩
          ·
            try simp only [decide_eq_true_eq, decide_eq_false_iff_not, Bool.not_eq_true', Bool.not_eq_false', Bool.and_eq_true, Bool.or_eq_true, Bool.or_eq_false_iff, Bool.cond_true_right, Bool.cond_false_right, Bool.cond_true_left, Bool.cond_false_left, ne_eq, Decidable.not_not, bne_iff_ne, beq_iff_eq, beq_eq_false_iff_ne, Bool.not_true, Bool.not_false] at hc3
            obtain ⟨hma, hmf, hmc, hml⟩ := best_ok.yes hc3
            have hstp := smF_step (N := N) (B := B') (mv := mv) (tr := tree2) (t := t2) (by omega) hc3
            have hir := hf2.mem _ hma.hm
            have hsl := sdL_len (N := N) (tree := tree2) (arc := (bestF N tree2 t2).o)
            have hfn := fo_mvF hma hf2
            refine wp_skip ?_
            refine n_then ?_
            refine wp_seq ?_
            refine rgD 14 (fun w_ => Ext w27 w_) (fun i => Nat.beq i 6 || Nat.beq i 9) mixed (by kernel_rfl) ?_
            intro w33 ho34 hs35
            refine ⟨ho34, ?_⟩
            have hx36 := ho34
            refine tn rfl (fun _ hG => y_lbN (hb4.ext hG) agg26 rfl) ?_
            refine tn rfl (fun _ hG => mvS rfl) ?_
            refine tn rfl (fun _ hG => mvS rfl) ?_
            refine tn rfl (fun _ hG => y_lbN (hb4.ext hG) agg26 rfl) ?_
            refine tn rfl (fun _ hG => mvS rfl) ?_
            refine tn rfl (fun _ hG => mvI rfl) ?_
            refine tc rfl cl40 (simplex_cut_ok N A _ _ tree2 _ _ _ _ (bestF N tree2 t2).o _ (hN.ext hx36) (Ow.sl (hR.ext hx36)) (by omega) hok hf2.mem hir.1 hir.2) rfl ?_
            rintro v41 w37 ⟨am, cm, rfl, hm, ho38⟩
            rw [← hsl]
            have hx42 := hx36.step ho38 (.inl (Nat.le_refl _))
            have hz43 := ho38.size
            refine ⟨hx42, ?_⟩
            refine tn rfl (fun _ hG => mvI rfl) ?_
            refine tn rfl (fun _ hG => mvI rfl) ?_
            refine tc rfl cl43 (simplex_move_ok N A _ _ tree2 _ _ _ _ t2 _ _ _ _ (bestF N tree2 t2).o (bestF N tree2 t2).i _ _ _ _ _ (hN.ext hx42) (Ow.sl (hR.ext hx42)) (by omega) (Ow.sl (hX.ext hx42)) hm hf2 hft2 hma) rfl ?_
            rintro v48 w44 ⟨af, cf, a1, c1, rfl, hF, hY, hdj2, ho45⟩
            have hFr := hF.rng
            have hYr := hY.rng
            have hx49 := hx42.step ho45 (.inl (Nat.le_refl _))
            have hz50 := ho45.size
            replace hm := hm.ext ho45
            refine ⟨hx49, ?_⟩
            refine tn rfl (fun _ hG => mvT rfl) ?_
            refine tn rfl (fun _ hG => y_ext rfl rfl) ?_
            refine tn rfl (fun _ hG => y_ext rfl rfl) ?_
            refine tn rfl (fun _ hG => asS rfl) ?_
            refine t_end ?_
            have hz51 := hx49.size
            replace hN := hN.ext hx49
            replace hTr := hTr.ext hx49
            replace hT := hT.ext hx49
            replace hE := hE.step hx49 (.inl (Nat.le_refl _))
            replace hb4 := hb4.ext hx49
            replace hR := hR.ext hx49
            replace hX := hX.ext hx49
            replace hlp0 := hlp0.step hx49 (.inl (Nat.le_refl _))
            refine st (asS rfl) ?_
            refine rg_end ?_
            refine n_then ?_
            refine rg ?_
            refine st (mvI rfl) ?_
            refine st (y_add rfl rfl (by omega)) ?_
            refine st (asI rfl) ?_
            refine rg_end ?_
            refine n_blk ?_
            exact n_then ⟨(mv + 1, _, _, _, _, _, _), _, rfl, same_lk rfl (same_h0), ⟨rfl, rfl, rfl, trivial⟩, ⟨hlp0, by omega, hfn, hmf, ⟨by rw [hsm.1, hstp], by rw [hsm.2.1, hstp], by rw [hsm.2.2, hstp]; dsimp only; omega⟩, (hF.lower (by omega)).wide (by omega), (hY.lower (by omega)).wide (by omega), by (try dsimp only); omega⟩, by first | omega | (dsimp only; omega)⟩
        ·
          try simp only [decide_eq_true_eq, decide_eq_false_iff_not, Bool.not_eq_true', Bool.not_eq_false', Bool.and_eq_true, Bool.or_eq_true, Bool.or_eq_false_iff, Bool.cond_true_right, Bool.cond_false_right, Bool.cond_true_left, Bool.cond_false_left, ne_eq, Decidable.not_not, bne_iff_ne, beq_iff_eq, beq_eq_false_iff_ne, Bool.not_true, Bool.not_false] at hc2
          have hsz := smF_zero (N := N) (B := B') (mv := mv) (tr := tree2) (t := t2) (by omega)
          refine wp_exit ?_
          refine e_then (e_then (e_blk (?_)))
          refine n_then ?_
          refine wp_seq ?_
          refine rg ?_
          refine st (mvS rfl) ?_
          refine st (mvS rfl) ?_
          refine st (mvI rfl) ?_
          refine st (asS rfl) ?_
          refine st (asS rfl) ?_
          refine st (asI rfl) ?_
          refine st (asI rfl) ?_
          refine rg_end ?_
          refine n_then ?_
          refine wp_ret ?_
          refine ret4 (v := (.slice _ _ _)) (v' := (.slice _ _ _)) (v'' := (.int .i64 _)) (v3 := (.int .i64 _)) Try.results25 rfl rfl rfl rfl ?_
          rw [hsz] at hsm
          exact ⟨_, _, tree2, _, _, t2, _, 0, rfl, (hR.lower (by omega)).wide (by omega), (hX.lower (by omega)).wide (by omega), hdj, ⟨fun h => absurd ⟨hfo, hft⟩ h, fun _ _ h => absurd hB h, fun _ _ _ => ⟨hsm.1.symm, hsm.2.1.symm, by have := hsm.2.2; simp only [Nat.add_zero] at this; rw [Int.toNat_natCast, this], rfl⟩⟩, hE⟩
end Go.Proofs.Ytgekfafangcggaa
