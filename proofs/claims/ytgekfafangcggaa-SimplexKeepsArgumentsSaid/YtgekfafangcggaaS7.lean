/-
  Walks of the functions, printed by a program out of the code and the loops' relations.
-/
import Derived.Test.YtgekfafangcggaaWkH
import Derived.Test.YtgekfafangcggaaProg
import Derived.KernelRfl
import Derived.Test.YtgekfafangcggaaS6
import Derived.Test.YtgekfafangcggaaWkM
namespace Go.Proofs.Ytgekfafangcggaa
open Go.Wk Go.RowKit
set_option linter.unusedVariables false
set_option linter.unusedSimpArgs false
theorem cl41 : Callable Try.prog 41 := ⟨Try.call41⟩
theorem cl43 : Callable Try.prog 43 := ⟨Try.call43⟩
theorem cl50 : Callable Try.prog 50 := ⟨Try.call50⟩
theorem cl66 : Callable Try.prog 66 := ⟨Try.call66⟩
theorem zer4 : ZeroOf Try.prog 4 (.bool false) := Try.zeroValue4

theorem wf_small {a : Int} (h0 : -9223372036854775808 ≤ a) (h1 : a ≤ 9223372036854775807) : (Lit.int .i64 a).wf = true := by
  simp only [Lit.wf, Bool.and_eq_true, decide_eq_true_eq]
  exact ⟨h0, h1⟩
theorem mv_feas {N : Net} {tree t : List Int} {out into : Int} (hf : feas N t = true) : feas N (moveT N tree t out into) = gnOk N (sdL N tree out) t (moveD N tree t out into % N.p) := by
  rw [← feas_sh hf, shT_mod]; rfl
theorem mv_cost {N : Net} {tree t : List Int} {out into : Int} (hf : feas N t = true) : costD N (moveT N tree t out into) = costD N t + gnC N (sdL N tree out) t (moveD N tree t out into % N.p) := by
  rw [← cost_sh (feas_iff.1 hf).1, shT_mod]; rfl

set_option maxHeartbeats 2000000 in
set_option maxRecDepth 100000 in
theorem simplex_Move_ok (N : Net) (A : NetA) (lo hi : Nat) (tree : List Int) (ar : Option Addr) (cr lr hr_ : Nat) (t : List Int) (at_ : Option Addr) (ct : Nat) (lt ht : Nat) (out into : Int) (w : World) (hN : NetIn lo hi w N A) (hTr : Ints lr hr_ w ar tree) (htn : (tree.length : Int) ≤ 9223372036854775807) (hT : Ints lt ht w at_ t)  : Cal Try.prog 17 [netV N A, .slice ar tree.length cr, .slice at_ t.length ct, .int .i64 out, .int .i64 into] w (fun v w' => ∃ af cf f a1 c1 T e, v = .tuple #[.slice af f.length cf, .slice a1 T.length c1, .int .i64 e] ∧ Ow 3 Wk.encI 1 w.heap.size w'.heap.size w' af cf f ∧ Ow 3 Wk.encI 1 w.heap.size w'.heap.size w' a1 c1 T ∧ (hi1 a1 ≤ blk af ∨ hi1 af = 0) ∧ MvR N tree t out into f T e ∧ Ext w w') := by
  replace hN := hN.full
  replace hTr := Ints.full hTr
  replace hT := Ints.full hT
  have hE : Out 0 0 w w := Out.refl _ _ w
  refine enter Try.func17 rfl Try.ntmps17 rfl ?_
  refine wp_seq ?_
  refine rg ?_
  refine sd (d_boxA rfl ?_)
  intro b5 w1 hbb5 hs3 ho2 hb5
  have hz4 := ho2.size
  replace hN := hN.ext ho2
  replace hTr := hTr.ext ho2
  replace hT := hT.ext ho2
  replace hE := hE.step ho2 (.inl (Nat.le_refl _))
  refine st (asS rfl) ?_
  refine st (asS rfl) ?_
  refine st (asI rfl) ?_
  refine rg_end ?_
  refine n_then ?_
  refine wp_seq ?_
  refine wp_seq ?_
  refine rg ?_
  refine st (y_lbN hb5 agg26 rfl) ?_
  refine st (mvS rfl) ?_
  refine st (mvS rfl) ?_
  refine sc cl41 (simplex_check_ok N A _ _ tree _ _ _ _ t _ _ _ _ _ hN hTr htn hT) rfl ?_
  rintro v9 w5 ⟨e0, rfl, hch, ho6⟩
  have hz10 := ho6.size
  replace hN := hN.ext ho6
  replace hTr := hTr.ext ho6
  replace hT := hT.ext ho6
  replace hE := hE.step ho6 (.inl (Nat.le_refl _))
  replace hb5 := hb5.ext ho6
  refine st (asI rfl) ?_
  refine rg_end ?_
  refine n_then ?_
  refine wp_seq ?_
  refine rg ?_
  refine st (mvI rfl) ?_
  refine st (y_neq rfl rfl) ?_
  refine rg_end ?_
  refine n_then ?_
  refine cnd rfl (fun hc0 => ?_) (fun hc0 => ?_)
  ·
    try simp only [decide_eq_true_eq, decide_eq_false_iff_not, Bool.not_eq_true', Bool.not_eq_false', Bool.and_eq_true, Bool.or_eq_true, Bool.or_eq_false_iff, Bool.cond_true_right, Bool.cond_false_right, Bool.cond_true_left, Bool.cond_false_left, ne_eq, Decidable.not_not, bne_iff_ne, beq_iff_eq, beq_eq_false_iff_ne, Bool.not_true, Bool.not_false] at hc0
    have hno : ¬ (FoOk N tree ∧ feas N t = true) := by
      rcases hch with h | h
      · exact absurd h.1 hc0
      · exact h.2
    have he1 : e0 = 1 := by
      rcases hch with h | h
      · exact absurd h.1 hc0
      · exact h.1
    subst he1
    refine wp_seq ?_
    refine rg ?_
    refine st (mvI rfl) ?_
    refine st (asS rfl) ?_
    refine st (asS rfl) ?_
    refine st (asI rfl) ?_
    refine rg_end ?_
    refine n_then ?_
    refine wp_ret ?_
    refine r_then (ret3 (v := (.slice _ _ _)) (v' := (.slice _ _ _)) (v'' := (.int .i64 _)) Try.results17 rfl rfl rfl ?_)
    exact ⟨none, 0, [], none, 0, [], 1, rfl, Ow.nil (fun _ => rfl), Ow.nil (fun _ => rfl), .inl (by simp [hi1]), ⟨fun _ => ⟨rfl, rfl, rfl⟩, fun h1 h2 => absurd ⟨h1, h2⟩ hno, fun h1 h2 => absurd ⟨h1, h2⟩ hno, fun h1 h2 => absurd ⟨h1, h2⟩ hno⟩, hE⟩
  ·
    try simp only [decide_eq_true_eq, decide_eq_false_iff_not, Bool.not_eq_true', Bool.not_eq_false', Bool.and_eq_true, Bool.or_eq_true, Bool.or_eq_false_iff, Bool.cond_true_right, Bool.cond_false_right, Bool.cond_true_left, Bool.cond_false_left, ne_eq, Decidable.not_not, bne_iff_ne, beq_iff_eq, beq_eq_false_iff_ne, Bool.not_true, Bool.not_false] at hc0
    obtain ⟨hfo, hft⟩ : FoOk N tree ∧ feas N t = true := by
      rcases hch with h | h
      · exact h.2
      · omega
    have hok := hfo.ok
    have hac := hok.ac
    have hmem := hfo.mem
    have hg := (feas_iff.1 hft).1
    refine wp_skip ?_
    refine n_then ?_
    refine wp_seq ?_
    refine wp_seq ?_
    refine rg ?_
    refine st (mvS rfl) ?_
    refine st (mvI rfl) ?_
    refine sc cl39 (slices_Contains_ok tree _ _ _ _ out _ hTr htn) rfl ?_
    rintro v15 w11 ⟨rfl, ho12⟩
    have hz16 := ho12.size
    replace hN := hN.ext ho12
    replace hTr := hTr.ext ho12
    replace hT := hT.ext ho12
    replace hE := hE.step ho12 (.inl (Nat.le_refl _))
    replace hb5 := hb5.ext ho12
    refine st (y_not rfl) ?_
    refine st (mvB rfl) ?_
    refine gspL 28 rfl (fun hg17 => ?_) (fun hg17 => ?_)
    ·
      have hg17n := hg17; try simp only [decide_eq_true_eq, decide_eq_false_iff_not, Bool.not_eq_true', Bool.not_eq_false', Bool.and_eq_true, Bool.or_eq_true, Bool.or_eq_false_iff, Bool.cond_true_right, Bool.cond_false_right, Bool.cond_true_left, Bool.cond_false_left, ne_eq, Decidable.not_not, bne_iff_ne, beq_iff_eq, beq_eq_false_iff_ne, Bool.not_true, Bool.not_false] at hg17n
      refine sts rfl rfl hg17 ?_
      refine sts rfl rfl hg17 ?_
      refine st (y_pickT rfl hg17 (v := .bool _) rfl) ?_
      refine st (mvB rfl) ?_
      refine sts rfl rfl rfl ?_
      refine sts rfl rfl rfl ?_
      refine sts rfl rfl rfl ?_
      refine sts rfl rfl rfl ?_
      refine sts rfl rfl rfl ?_
      refine st (y_pickT rfl rfl (v := .bool _) rfl) ?_
      refine st (mvB rfl) ?_
      refine sts rfl rfl rfl ?_
      refine sts rfl rfl rfl ?_
      refine sts rfl rfl rfl ?_
      refine st (y_pickT rfl rfl (v := .bool _) rfl) ?_
      refine rg_end ?_
      refine n_then ?_
      refine cnd rfl (fun hc1 => ?_) (fun hc1 => absurd hc1 (by decide))
      have hnm : ¬ MvA N tree out into := fun h => by
        have h1 := h.hm
        have h2 := h.i0
        have h4 := h.i1
        have h3 := h.ne
        first
        | exact absurd h1 (by assumption)
        | omega
      refine wp_seq ?_
      refine rg ?_
      refine st (asS rfl) ?_
      refine st (asS rfl) ?_
      refine st (asI rfl) ?_
      refine rg_end ?_
      refine n_then ?_
      refine wp_ret ?_
      refine r_then (ret3 (v := (.slice _ _ _)) (v' := (.slice _ _ _)) (v'' := (.int .i64 _)) Try.results17 rfl rfl rfl ?_)
      exact ⟨none, 0, [], none, 0, [], 4, rfl, Ow.nil (fun _ => rfl), Ow.nil (fun _ => rfl), .inl (by simp [hi1]), ⟨fun h => absurd ⟨hfo, hft⟩ h, fun _ _ _ => ⟨rfl, rfl, rfl⟩, fun _ _ h => absurd h hnm, fun _ _ h => absurd h hnm⟩, hE⟩
    ·
      have hg17n := hg17; try simp only [decide_eq_true_eq, decide_eq_false_iff_not, Bool.not_eq_true', Bool.not_eq_false', Bool.and_eq_true, Bool.or_eq_true, Bool.or_eq_false_iff, Bool.cond_true_right, Bool.cond_false_right, Bool.cond_true_left, Bool.cond_false_left, ne_eq, Decidable.not_not, bne_iff_ne, beq_iff_eq, beq_eq_false_iff_ne, Bool.not_true, Bool.not_false] at hg17n
      refine stg rfl rfl hg17 (mvI rfl) ?_
      refine stg rfl rfl hg17 (y_lss rfl rfl) ?_
      refine st (y_pickF rfl hg17 (v := .bool _) rfl) ?_
      refine st (mvB rfl) ?_
      refine gspL 32 rfl (fun hg18 => ?_) (fun hg18 => ?_)
      ·
        have hg18n := hg18; try simp only [decide_eq_true_eq, decide_eq_false_iff_not, Bool.not_eq_true', Bool.not_eq_false', Bool.and_eq_true, Bool.or_eq_true, Bool.or_eq_false_iff, Bool.cond_true_right, Bool.cond_false_right, Bool.cond_true_left, Bool.cond_false_left, ne_eq, Decidable.not_not, bne_iff_ne, beq_iff_eq, beq_eq_false_iff_ne, Bool.not_true, Bool.not_false] at hg18n
        refine sts rfl rfl hg18 ?_
        refine sts rfl rfl hg18 ?_
        refine sts rfl rfl hg18 ?_
        refine sts rfl rfl hg18 ?_
        refine sts rfl rfl hg18 ?_
        refine st (y_pickT rfl hg18 (v := .bool _) rfl) ?_
        refine st (mvB rfl) ?_
        refine sts rfl rfl rfl ?_
        refine sts rfl rfl rfl ?_
        refine sts rfl rfl rfl ?_
        refine st (y_pickT rfl rfl (v := .bool _) rfl) ?_
        refine rg_end ?_
        refine n_then ?_
        refine cnd rfl (fun hc1 => ?_) (fun hc1 => absurd hc1 (by decide))
        have hnm : ¬ MvA N tree out into := fun h => by
          have h1 := h.hm
          have h2 := h.i0
          have h4 := h.i1
          have h3 := h.ne
          first
          | exact absurd h1 (by assumption)
          | omega
        refine wp_seq ?_
        refine rg ?_
        refine st (asS rfl) ?_
        refine st (asS rfl) ?_
        refine st (asI rfl) ?_
        refine rg_end ?_
        refine n_then ?_
        refine wp_ret ?_
        refine r_then (ret3 (v := (.slice _ _ _)) (v' := (.slice _ _ _)) (v'' := (.int .i64 _)) Try.results17 rfl rfl rfl ?_)
        exact ⟨none, 0, [], none, 0, [], 4, rfl, Ow.nil (fun _ => rfl), Ow.nil (fun _ => rfl), .inl (by simp [hi1]), ⟨fun h => absurd ⟨hfo, hft⟩ h, fun _ _ _ => ⟨rfl, rfl, rfl⟩, fun _ _ h => absurd h hnm, fun _ _ h => absurd h hnm⟩, hE⟩
      ·
        have hg18n := hg18; try simp only [decide_eq_true_eq, decide_eq_false_iff_not, Bool.not_eq_true', Bool.not_eq_false', Bool.and_eq_true, Bool.or_eq_true, Bool.or_eq_false_iff, Bool.cond_true_right, Bool.cond_false_right, Bool.cond_true_left, Bool.cond_false_left, ne_eq, Decidable.not_not, bne_iff_ne, beq_iff_eq, beq_eq_false_iff_ne, Bool.not_true, Bool.not_false] at hg18n
        refine stg rfl rfl hg18 (mvI rfl) ?_
        refine stg rfl rfl hg18 (y_fld fld26_2 rfl) ?_
        refine stg rfl rfl hg18 (y_lb hb5 na24 rfl rfl) ?_
        refine stg rfl rfl hg18 (y_len Try.underlying24 rfl) ?_
        refine stg rfl rfl hg18 (y_geq rfl rfl) ?_
        refine st (y_pickF rfl hg18 (v := .bool _) rfl) ?_
        refine st (mvB rfl) ?_
        refine gspL 39 rfl (fun hg19 => ?_) (fun hg19 => ?_)
        ·
          have hg19n := hg19; try simp only [decide_eq_true_eq, decide_eq_false_iff_not, Bool.not_eq_true', Bool.not_eq_false', Bool.and_eq_true, Bool.or_eq_true, Bool.or_eq_false_iff, Bool.cond_true_right, Bool.cond_false_right, Bool.cond_true_left, Bool.cond_false_left, ne_eq, Decidable.not_not, bne_iff_ne, beq_iff_eq, beq_eq_false_iff_ne, Bool.not_true, Bool.not_false] at hg19n
          refine sts rfl rfl hg19 ?_
          refine sts rfl rfl hg19 ?_
          refine sts rfl rfl hg19 ?_
          refine st (y_pickT rfl hg19 (v := .bool _) rfl) ?_
          refine rg_end ?_
          refine n_then ?_
          refine cnd rfl (fun hc1 => ?_) (fun hc1 => absurd hc1 (by decide))
          have hnm : ¬ MvA N tree out into := fun h => by
            have h1 := h.hm
            have h2 := h.i0
            have h4 := h.i1
            have h3 := h.ne
            first
            | exact absurd h1 (by assumption)
            | omega
          refine wp_seq ?_
          refine rg ?_
          refine st (asS rfl) ?_
          refine st (asS rfl) ?_
          refine st (asI rfl) ?_
          refine rg_end ?_
          refine n_then ?_
          refine wp_ret ?_
          refine r_then (ret3 (v := (.slice _ _ _)) (v' := (.slice _ _ _)) (v'' := (.int .i64 _)) Try.results17 rfl rfl rfl ?_)
          exact ⟨none, 0, [], none, 0, [], 4, rfl, Ow.nil (fun _ => rfl), Ow.nil (fun _ => rfl), .inl (by simp [hi1]), ⟨fun h => absurd ⟨hfo, hft⟩ h, fun _ _ _ => ⟨rfl, rfl, rfl⟩, fun _ _ h => absurd h hnm, fun _ _ h => absurd h hnm⟩, hE⟩
        ·
          have hg19n := hg19; try simp only [decide_eq_true_eq, decide_eq_false_iff_not, Bool.not_eq_true', Bool.not_eq_false', Bool.and_eq_true, Bool.or_eq_true, Bool.or_eq_false_iff, Bool.cond_true_right, Bool.cond_false_right, Bool.cond_true_left, Bool.cond_false_left, ne_eq, Decidable.not_not, bne_iff_ne, beq_iff_eq, beq_eq_false_iff_ne, Bool.not_true, Bool.not_false] at hg19n
          refine stg rfl rfl hg19 (mvI rfl) ?_
          refine stg rfl rfl hg19 (mvI rfl) ?_
          refine stg rfl rfl hg19 (y_eql rfl rfl) ?_
          refine st (y_pickF rfl hg19 (v := .bool _) rfl) ?_
          refine rg_end ?_
          refine n_then ?_
          refine cnd rfl (fun hc1 => ?_) (fun hc1 => ?_)
          ·
            try simp only [decide_eq_true_eq, decide_eq_false_iff_not, Bool.not_eq_true', Bool.not_eq_false', Bool.and_eq_true, Bool.or_eq_true, Bool.or_eq_false_iff, Bool.cond_true_right, Bool.cond_false_right, Bool.cond_true_left, Bool.cond_false_left, ne_eq, Decidable.not_not, bne_iff_ne, beq_iff_eq, beq_eq_false_iff_ne, Bool.not_true, Bool.not_false] at hc1
            have hnm : ¬ MvA N tree out into := fun h => by
              have h1 := h.hm
              have h2 := h.i0
              have h4 := h.i1
              have h3 := h.ne
              first
              | exact absurd h1 (by assumption)
              | omega
            refine wp_seq ?_
            refine rg ?_
            refine st (asS rfl) ?_
            refine st (asS rfl) ?_
            refine st (asI rfl) ?_
            refine rg_end ?_
            refine n_then ?_
            refine wp_ret ?_
            refine r_then (ret3 (v := (.slice _ _ _)) (v' := (.slice _ _ _)) (v'' := (.int .i64 _)) Try.results17 rfl rfl rfl ?_)
            exact ⟨none, 0, [], none, 0, [], 4, rfl, Ow.nil (fun _ => rfl), Ow.nil (fun _ => rfl), .inl (by simp [hi1]), ⟨fun h => absurd ⟨hfo, hft⟩ h, fun _ _ _ => ⟨rfl, rfl, rfl⟩, fun _ _ h => absurd h hnm, fun _ _ h => absurd h hnm⟩, hE⟩
          ·
            try simp only [decide_eq_true_eq, decide_eq_false_iff_not, Bool.not_eq_true', Bool.not_eq_false', Bool.and_eq_true, Bool.or_eq_true, Bool.or_eq_false_iff, Bool.cond_true_right, Bool.cond_false_right, Bool.cond_true_left, Bool.cond_false_left, ne_eq, Decidable.not_not, bne_iff_ne, beq_iff_eq, beq_eq_false_iff_ne, Bool.not_true, Bool.not_false] at hc1
            have hmm : out ∈ tree := by assumption
            have hir : 0 ≤ into ∧ into < N.acts.length := by omega
            have hio2 : into ≠ out := by omega
            have hor := hmem out hmm
            have ha := hok.acs _ (el_mem hir.1 hir.2)
            have hsl := sdL_len (N := N) (tree := tree) (arc := out)
            refine wp_skip ?_
            refine n_then ?_
            refine wp_seq ?_
            refine rg ?_
            refine st (y_lbN hb5 agg26 rfl) ?_
            refine st (mvS rfl) ?_
            refine st (mvI rfl) ?_
            refine sc cl40 (simplex_cut_ok N A _ _ tree _ _ _ _ out _ hN hTr htn hok hmem hor.1 hor.2) rfl ?_
            rintro v24 w20 ⟨am, cm, rfl, hm, ho21⟩
            rw [← hsl]
            have hz25 := ho21.size
            replace hN := hN.ext ho21
            replace hTr := hTr.ext ho21
            replace hT := hT.ext ho21
            replace hE := hE.step ho21 (.inl (Nat.le_refl _))
            replace hb5 := hb5.ext ho21
            refine st (asS rfl) ?_
            refine rg_end ?_
            refine n_then ?_
            refine wp_seq ?_
            refine wp_seq ?_
            refine rg ?_
            refine st (y_fld fld26_2 rfl) ?_
            refine st (y_lb hb5 na24 rfl rfl) ?_
            refine st (mvI rfl) ?_
            refine st (y_ix hN.a sl24 rfl (rfl) rfl (by omega) (by omega)) ?_
            refine st (y_lw hN.a agg36 rfl (by omega) (by omega)) ?_
            refine st (mvS rfl) ?_
            refine sc cl42 (simplex_crosses_ok N (el N.acts into) (sdL N tree out) _ _ _ _ _ hm hsl ha) rfl ?_
            rintro v30 w26 ⟨rfl, ho27⟩
            have hz31 := ho27.size
            replace hN := hN.ext ho27
            replace hTr := hTr.ext ho27
            replace hT := hT.ext ho27
            replace hE := hE.step ho27 (.inl (Nat.le_refl _))
            replace hb5 := hb5.ext ho27
            replace hm := hm.ext ho27
            refine st (y_not rfl) ?_
            refine rg_end ?_
            refine n_then ?_
            refine cnd rfl (fun hc2 => ?_) (fun hc2 => ?_)
            ·
              try simp only [decide_eq_true_eq, decide_eq_false_iff_not, Bool.not_eq_true', Bool.not_eq_false', Bool.and_eq_true, Bool.or_eq_true, Bool.or_eq_false_iff, Bool.cond_true_right, Bool.cond_false_right, Bool.cond_true_left, Bool.cond_false_left, ne_eq, Decidable.not_not, bne_iff_ne, beq_iff_eq, beq_eq_false_iff_ne, Bool.not_true, Bool.not_false] at hc2
              have hnm : ¬ MvA N tree out into := fun h => by have := h.xs; rw [hc2] at this; cases this
              refine wp_seq ?_
              refine rg ?_
              refine st (asS rfl) ?_
              refine st (asS rfl) ?_
              refine st (asI rfl) ?_
              refine rg_end ?_
              refine n_then ?_
              refine wp_ret ?_
              refine r_then (ret3 (v := (.slice _ _ _)) (v' := (.slice _ _ _)) (v'' := (.int .i64 _)) Try.results17 rfl rfl rfl ?_)
              exact ⟨none, 0, [], none, 0, [], 4, rfl, Ow.nil (fun _ => rfl), Ow.nil (fun _ => rfl), .inl (by simp [hi1]), ⟨fun h => absurd ⟨hfo, hft⟩ h, fun _ _ _ => ⟨rfl, rfl, rfl⟩, fun _ _ h => absurd h hnm, fun _ _ h => absurd h hnm⟩, hE⟩
            ·
              try simp only [decide_eq_true_eq, decide_eq_false_iff_not, Bool.not_eq_true', Bool.not_eq_false', Bool.and_eq_true, Bool.or_eq_true, Bool.or_eq_false_iff, Bool.cond_true_right, Bool.cond_false_right, Bool.cond_true_left, Bool.cond_false_left, ne_eq, Decidable.not_not, bne_iff_ne, beq_iff_eq, beq_eq_false_iff_ne, Bool.not_true, Bool.not_false] at hc2
              have hma : MvA N tree out into := ⟨hmm, hir.1, hir.2, hio2, hc2⟩
              refine wp_skip ?_
              refine n_then ?_
              refine wp_seq ?_
              refine rg ?_
              refine st (y_lbN hb5 agg26 rfl) ?_
              refine st (mvS rfl) ?_
              refine st (mvS rfl) ?_
              refine st (mvS rfl) ?_
              refine st (mvI rfl) ?_
              refine st (mvI rfl) ?_
              refine sc cl43 (simplex_move_ok N A _ _ tree _ _ _ _ t _ _ _ _ out into _ _ _ _ _ hN hTr htn hT hm hfo hft hma) rfl ?_
              rintro v36 w32 ⟨af, cf, a1, c1, rfl, hF, hX, hdj, ho33⟩
              have hz37 := ho33.size
              replace hN := hN.ext ho33
              replace hTr := hTr.ext ho33
              replace hT := hT.ext ho33
              replace hE := hE.step ho33 (.inl (Nat.le_refl _))
              replace hb5 := hb5.ext ho33
              replace hm := hm.ext ho33
              refine st (mvT rfl) ?_
              refine st (y_ext rfl rfl) ?_
              refine st (y_ext rfl rfl) ?_
              refine st (asS rfl) ?_
              refine st (asS rfl) ?_
              refine rg_end ?_
              refine n_then ?_
              refine wp_seq ?_
              refine wp_seq ?_
              refine rg ?_
              refine st (y_lbN hb5 agg26 rfl) ?_
              refine st (mvS rfl) ?_
              refine sc cl44 (network_Feasible_ok N A _ _ (moveT N tree t out into) _ _ _ _ _ hN (Ow.sl hX)) rfl ?_
              rintro v42 w38 ⟨rfl, ho39⟩
              have hz43 := ho39.size
              replace hN := hN.ext ho39
              replace hTr := hTr.ext ho39
              replace hT := hT.ext ho39
              replace hE := hE.step ho39 (.inl (Nat.le_refl _))
              replace hb5 := hb5.ext ho39
              replace hm := hm.ext ho39
              replace hF := hF.ext ho39
              replace hX := hX.ext ho39
              refine st (y_not rfl) ?_
              refine rg_end ?_
              refine n_then ?_
              refine cnd rfl (fun hc3 => ?_) (fun hc3 => ?_)
              ·
                try simp only [decide_eq_true_eq, decide_eq_false_iff_not, Bool.not_eq_true', Bool.not_eq_false', Bool.and_eq_true, Bool.or_eq_true, Bool.or_eq_false_iff, Bool.cond_true_right, Bool.cond_false_right, Bool.cond_true_left, Bool.cond_false_left, ne_eq, Decidable.not_not, bne_iff_ne, beq_iff_eq, beq_eq_false_iff_ne, Bool.not_true, Bool.not_false] at hc3
                refine wp_seq ?_
                refine rg ?_
                refine st (asS rfl) ?_
                refine st (asS rfl) ?_
                refine st (asI rfl) ?_
                refine rg_end ?_
                refine n_then ?_
                refine wp_ret ?_
                refine r_then (ret3 (v := (.slice _ _ _)) (v' := (.slice _ _ _)) (v'' := (.int .i64 _)) Try.results17 rfl rfl rfl ?_)
                exact ⟨none, 0, [], none, 0, [], 14, rfl, Ow.nil (fun _ => rfl), Ow.nil (fun _ => rfl), .inl (by simp [hi1]), ⟨fun h => absurd ⟨hfo, hft⟩ h, fun _ _ h => absurd hma h, fun _ _ _ _ => ⟨rfl, rfl, rfl⟩, fun _ _ _ h => by rw [hc3] at h; cases h⟩, hE⟩
              ·
                try simp only [decide_eq_true_eq, decide_eq_false_iff_not, Bool.not_eq_true', Bool.not_eq_false', Bool.and_eq_true, Bool.or_eq_true, Bool.or_eq_false_iff, Bool.cond_true_right, Bool.cond_false_right, Bool.cond_true_left, Bool.cond_false_left, ne_eq, Decidable.not_not, bne_iff_ne, beq_iff_eq, beq_eq_false_iff_ne, Bool.not_true, Bool.not_false] at hc3
                refine wp_skip ?_
                refine n_then ?_
                refine wp_seq ?_
                refine rg ?_
                refine st (mvS rfl) ?_
                refine st (mvS rfl) ?_
                refine st (asS rfl) ?_
                refine st (asS rfl) ?_
                refine st (asI rfl) ?_
                refine rg_end ?_
                refine n_then ?_
                refine wp_ret ?_
                refine ret3 (v := (.slice _ _ _)) (v' := (.slice _ _ _)) (v'' := (.int .i64 _)) Try.results17 rfl rfl rfl ?_
                exact ⟨af, cf, moveF N tree out into, a1, c1, moveT N tree t out into, 0, rfl, (hF.lower (by omega)).wide (by omega), (hX.lower (by omega)).wide (by omega), hdj, ⟨fun h => absurd ⟨hfo, hft⟩ h, fun _ _ h => absurd hma h, fun _ _ _ h => (by rw [hc3] at h; cases h), fun _ _ _ _ => ⟨rfl, rfl, rfl⟩⟩, hE⟩

set_option maxHeartbeats 4000000 in
set_option maxRecDepth 100000 in
theorem simplex_best_ok (N : Net) (A : NetA) (lo hi : Nat) (tree : List Int) (ar : Option Addr) (cr lr hr_ : Nat) (t : List Int) (at_ : Option Addr) (ct : Nat) (lt ht : Nat) (w : World) (hN : NetIn lo hi w N A) (hTr : Ints lr hr_ w ar tree) (htn : (tree.length : Int) ≤ 9223372036854775807) (hT : Ints lt ht w at_ t) (hfo : FoOk N tree) (hft : feas N t = true) : Cal Try.prog 50 [netV N A, .slice ar tree.length cr, .slice at_ t.length ct] w (fun v w' => v = .tuple #[.int .i64 (bestF N tree t).o, .int .i64 (bestF N tree t).i, .bool (bestF N tree t).ok] ∧ Ext w w') := by
  replace hN := hN.full
  replace hTr := Ints.full hTr
  replace hT := Ints.full hT
  have hok := hfo.ok
  have hac := hok.ac
  have hp2 := hok.p2
  have hp7 := hok.p7
  have hmem := hfo.mem
  have hg := (feas_iff.1 hft).1
  have hE : Out 0 0 w w := Out.refl _ _ w
  refine enter Try.func50 rfl Try.ntmps50 rfl ?_
  refine wp_seq ?_
  refine rg ?_
  refine sd (d_boxA rfl ?_)
  intro b3 w1 hbb3 hs3 ho2 hb3
  have hz4 := ho2.size
  replace hN := hN.ext ho2
  replace hTr := hTr.ext ho2
  replace hT := hT.ext ho2
  replace hE := hE.step ho2 (.inl (Nat.le_refl _))
  refine st (asI rfl) ?_
  refine st (asI rfl) ?_
  refine st (asB rfl) ?_
  refine rg_end ?_
  refine n_then ?_
  refine wp_seq ?_
  refine rg ?_
  refine st (asI rfl) ?_
  refine rg_end ?_
  refine n_then ?_
  refine wp_seq ?_
  refine wp_seq ?_
  refine rg ?_
  refine st (mvS rfl) ?_
  refine st (y_len Try.underlying22 rfl) ?_
  refine st (mvI rfl) ?_
  refine rg_end ?_
  refine n_then ?_
  refine wp_block ?_
  refine lp (γ := Nat × Int) [6, 7, 8, 9, 11, 12, 13, 14, 15, 16, 17, 18, 21, 22, 23, 24, 25, 26, 27, 28, 29, 30, 31, 32, 33, 34, 35, 36, 37, 38, 39, 40, 41, 42, 43, 44, 45, 46, 47, 48, 49, 50, 51, 52, 53, 54, 55, 56, 57, 58, 59, 60, 61, 62, 63, 64, 65, 66, 67, 68, 69, 70, 71, 72, 73, 74, 75, 76, 77, 78] (fun ⟨i, ls⟩ => [(21, .int .i64 (i : Int)), (6, .int .i64 (bsR N tree t i).o), (7, .int .i64 (bsR N tree t i).i), (8, .bool (bsR N tree t i).ok), (9, .int .i64 ls)]) (fun ⟨i, ls⟩ w_ => Ext w1 w_ ∧ (i : Int) ≤ tree.length ∧ ls = (bsR N tree t i).c - costD N t) (fun ⟨i, ls⟩ => tree.length - i) (0, 0) ⟨rfl, rfl, rfl, rfl, rfl, trivial⟩ ⟨Out.refl _ _ _, by omega, by show (0 : Int) = costD N t - costD N t; omega⟩ ?_
  rintro ⟨i, ls⟩ hav_ w5 ⟨ho6, hi_, hls⟩
  have hlp0 := ho6
  have hz7 := ho6.size
  replace hN := hN.ext ho6
  replace hTr := hTr.ext ho6
  replace hT := hT.ext ho6
  replace hE := hE.step ho6 (.inl (Nat.le_refl _))
  replace hb3 := hb3.ext ho6
  refine wp_seq ?_
  refine rg ?_
  refine st (y_lss rfl rfl) ?_
  refine rg_end ?_
  refine n_then ?_
  refine wp_seq ?_
  refine cnd rfl (fun hc0 => ?_) (fun hc0 => ?_)
  ·
    try simp only [decide_eq_true_eq, decide_eq_false_iff_not, Bool.not_eq_true', Bool.not_eq_false', Bool.and_eq_true, Bool.or_eq_true, Bool.or_eq_false_iff, Bool.cond_true_right, Bool.cond_false_right, Bool.cond_true_left, Bool.cond_false_left, ne_eq, Decidable.not_not, bne_iff_ne, beq_iff_eq, beq_eq_false_iff_ne, Bool.not_true, Bool.not_false] at hc0
    have hmi := el_mem (l := tree) (i := (i : Int)) (by omega) (by omega)
    have hor := hmem _ hmi
    have hsl := sdL_len (N := N) (tree := tree) (arc := (el tree (i : Int)))
    refine wp_skip ?_
    refine n_then ?_
    refine wp_seq ?_
    refine wp_block ?_
    refine wp_seq ?_
    refine rg ?_
    refine st (y_ix hTr sl22 rfl (rfl) rfl (by omega) (by omega)) ?_
    refine st (y_le hTr na3 rfl (by omega) (by omega) rfl) ?_
    refine st (asI rfl) ?_
    refine rg_end ?_
    refine n_then ?_
    refine wp_seq ?_
    refine rg ?_
    refine st (y_lbN hb3 agg26 rfl) ?_
    refine st (mvS rfl) ?_
    refine st (mvI rfl) ?_
    refine sc cl40 (simplex_cut_ok N A _ _ tree _ _ _ _ (el tree (i : Int)) _ hN hTr htn hok hmem hor.1 hor.2) rfl ?_
    rintro v12 w8 ⟨am, cm, rfl, hm, ho9⟩
    rw [← hsl]
    have hz13 := ho9.size
    replace hN := hN.ext ho9
    replace hTr := hTr.ext ho9
    replace hT := hT.ext ho9
    replace hE := hE.step ho9 (.inl (Nat.le_refl _))
    replace hb3 := hb3.ext ho9
    replace hlp0 := hlp0.step ho9 (.inl (Nat.le_refl _))
    refine st (asS rfl) ?_
    refine rg_end ?_
    refine n_then ?_
    refine wp_seq ?_
    refine rg ?_
    refine sd (d_map (kt := 3) (enc := (Value.int .i64)) ?_)
    intro bmp w14 hbbmp hs16 ho15 hMp
    have hz17 := ho15.size
    replace hN := hN.ext ho15
    replace hTr := hTr.ext ho15
    replace hT := hT.ext ho15
    replace hE := hE.step ho15 (.inl (Nat.le_refl _))
    replace hb3 := hb3.ext ho15
    replace hlp0 := hlp0.step ho15 (.inl (Nat.le_refl _))
    replace hm := hm.ext ho15
    refine st (asM rfl) ?_
    refine rg_end ?_
    refine n_then ?_
    refine wp_seq ?_
    refine rg ?_
    refine st (y_fld fld26_2 rfl) ?_
    refine st (y_lb hb3 na24 rfl rfl) ?_
    refine st (y_len Try.underlying24 rfl) ?_
    refine st (mvI rfl) ?_
    refine rg_end ?_
    refine n_then ?_
    refine wp_block ?_
    refine lp (γ := Nat × Int × List Int) [6, 7, 8, 9, 14, 15, 16, 17, 18, 33, 34, 35, 36, 37, 38, 39, 40, 41, 42, 43, 44, 45, 46, 47, 48, 49, 50, 51, 52, 53, 54, 55, 56, 57, 58, 59, 60, 61, 62, 63, 64, 65, 66, 67, 68, 69, 70, 71, 72, 73, 74, 75, 76, 77] (fun ⟨k, ls, sn⟩ => [(33, .int .i64 (k : Int)), (6, .int .i64 (bsI N tree t (el tree (i : Int)) (bsR N tree t i) k).o), (7, .int .i64 (bsI N tree t (el tree (i : Int)) (bsR N tree t i) k).i), (8, .bool (bsI N tree t (el tree (i : Int)) (bsR N tree t i) k).ok), (9, .int .i64 ls)]) (fun ⟨k, ls, sn⟩ w_ => Out bmp (bmp + 1) w14 w_ ∧ (k : Int) ≤ N.acts.length ∧ ls = (bsI N tree t (el tree (i : Int)) (bsR N tree t i) k).c - costD N t ∧ (∀ b ∈ sn, gnOk N (sdL N tree (el tree (i : Int))) t b = true → ls ≤ gnC N (sdL N tree (el tree (i : Int))) t b) ∧ Mp Try.prog 3 (Value.int .i64) w_ bmp sn) (fun ⟨k, ls, sn⟩ => N.acts.length - k) (0, ls, []) ⟨rfl, rfl, rfl, rfl, rfl, trivial⟩ ⟨Out.refl _ _ _, by omega, hls, (fun b hb => by cases hb), hMp⟩ ?_
    rintro ⟨k, ls, sn⟩ hav_ w18 ⟨ho19, hk_, hls, hsn, hMp⟩
    have hlp1 := ho19
    have hz20 := ho19.size
    replace hN := hN.out ho19 (by first | omega | (simp only [blk_some, hi1_some] at *; omega))
    replace hTr := hTr.out ho19 (by first | omega | (simp only [blk_some, hi1_some] at *; omega))
    replace hT := hT.out ho19 (by first | omega | (simp only [blk_some, hi1_some] at *; omega))
    replace hE := hE.step ho19 (by first | omega | (simp only [blk_some, hi1_some] at *; omega))
    replace hb3 := hb3.out ho19 (by first | omega | (simp only [blk_some, hi1_some] at *; omega))
    replace hlp0 := hlp0.step ho19 (by first | omega | (simp only [blk_some, hi1_some] at *; omega))
    replace hm := hm.out ho19 (by first | omega | (simp only [blk_some, hi1_some] at *; omega))
    refine wp_seq ?_
    refine rg ?_
    refine st (y_lss rfl rfl) ?_
    refine rg_end ?_
    refine n_then ?_
    refine wp_seq ?_
    refine cnd rfl (fun hc1 => ?_) (fun hc1 => ?_)
    ·
      try simp only [decide_eq_true_eq, decide_eq_false_iff_not, Bool.not_eq_true', Bool.not_eq_false', Bool.and_eq_true, Bool.or_eq_true, Bool.or_eq_false_iff, Bool.cond_true_right, Bool.cond_false_right, Bool.cond_true_left, Bool.cond_false_left, ne_eq, Decidable.not_not, bne_iff_ne, beq_iff_eq, beq_eq_false_iff_ne, Bool.not_true, Bool.not_false] at hc1
      have ha := hok.acs _ (el_mem (l := N.acts) (i := (k : Int)) (by omega) hc1)
      have hsr := slk_rng (N := N) (t := t) (a := (el N.acts (k : Int))) hp2
      have hdr : -7200 ≤ moveD N tree t (el tree (i : Int)) (k : Int) ∧ moveD N tree t (el tree (i : Int)) (k : Int) ≤ 7200 := by unfold moveD; split <;> omega
      have hmf := mv_feas (N := N) (tree := tree) (t := t) (out := (el tree (i : Int))) (into := (k : Int)) hft
      have hmc := mv_cost (N := N) (tree := tree) (t := t) (out := (el tree (i : Int))) (into := (k : Int)) hft
      refine wp_skip ?_
      refine n_then ?_
      refine wp_seq ?_
      refine wp_block ?_
      refine wp_seq ?_
      refine rg ?_
      refine st (mvI rfl) ?_
      refine st (y_ix hN.a sl24 rfl (rfl) rfl (by omega) (by omega)) ?_
      refine st (y_lw hN.a agg36 rfl (by omega) (by omega)) ?_
      refine sd (d_allocA zer36 ?_)
      intro b15 w21 hbb15 hs23 ho22 hb15
      have hz24 := ho22.size
      replace hN := hN.ext ho22
      replace hTr := hTr.ext ho22
      replace hT := hT.ext ho22
      replace hE := hE.step ho22 (.inl (Nat.le_refl _))
      replace hb3 := hb3.ext ho22
      replace hlp0 := hlp0.step ho22 (.inl (Nat.le_refl _))
      replace hm := hm.ext ho22
      replace hMp := hMp.ext ho22
      replace hlp1 := hlp1.step ho22 (.inl (Nat.le_refl _))
      refine st (asI rfl) ?_
      refine sd0 (d_stN hb15 rfl rfl sz36 rfl rfl ?_)
      intro w25 hs27 ho26 hb15'
      clear hb15; have hb15 := hb15'; clear hb15'
      have hz28 := ho26.size
      replace hN := hN.out ho26 (by first | omega | (simp only [blk_some, hi1_some] at *; omega))
      replace hTr := hTr.out ho26 (by first | omega | (simp only [blk_some, hi1_some] at *; omega))
      replace hT := hT.out ho26 (by first | omega | (simp only [blk_some, hi1_some] at *; omega))
      replace hE := hE.step ho26 (by first | omega | (simp only [blk_some, hi1_some] at *; omega))
      replace hb3 := hb3.out ho26 (by first | omega | (simp only [blk_some, hi1_some] at *; omega))
      replace hlp0 := hlp0.step ho26 (by first | omega | (simp only [blk_some, hi1_some] at *; omega))
      replace hm := hm.out ho26 (by first | omega | (simp only [blk_some, hi1_some] at *; omega))
      replace hMp := hMp.out ho26 (by first | omega | (simp only [blk_some, hi1_some] at *; omega))
      replace hlp1 := hlp1.step ho26 (by first | omega | (simp only [blk_some, hi1_some] at *; omega))
      refine rg_end ?_
      refine n_then ?_
      refine wp_seq ?_
      refine wp_seq ?_
      refine rg ?_
      refine st (mvI rfl) ?_
      refine st (mvI rfl) ?_
      refine st (y_eql rfl rfl) ?_
      refine st (mvB rfl) ?_
      refine gspL 41 rfl (fun hg29 => ?_) (fun hg29 => ?_)
      ·
        have hg29n := hg29; try simp only [decide_eq_true_eq, decide_eq_false_iff_not, Bool.not_eq_true', Bool.not_eq_false', Bool.and_eq_true, Bool.or_eq_true, Bool.or_eq_false_iff, Bool.cond_true_right, Bool.cond_false_right, Bool.cond_true_left, Bool.cond_false_left, ne_eq, Decidable.not_not, bne_iff_ne, beq_iff_eq, beq_eq_false_iff_ne, Bool.not_true, Bool.not_false] at hg29n
        have hko : (k : Int) = (el tree (i : Int)) := by omega
        have hst : bsI N tree t (el tree (i : Int)) (bsR N tree t i) (k + 1) = bsI N tree t (el tree (i : Int)) (bsR N tree t i) k := by
          show bsS N tree t _ k _ = _
          unfold bsS
          rw [if_neg (fun hx => by have := (moveB_a hx.1 hmi (by omega)).ne; omega)]
        refine sts rfl rfl hg29 ?_
        refine sts rfl rfl hg29 ?_
        refine sts rfl rfl hg29 ?_
        refine sts rfl rfl hg29 ?_
        refine st (y_pickT rfl hg29 (v := .bool _) rfl) ?_
        refine rg_end ?_
        refine n_then ?_
        refine cnd rfl (fun hc2 => ?_) (fun hc2 => absurd hc2 (by decide))
        first
        | have hst5 := hst
        | have hst : bsI N tree t (el tree (i : Int)) (bsR N tree t i) (k + 1) = bsI N tree t (el tree (i : Int)) (bsR N tree t i) k := by
            show bsS N tree t _ k _ = _
            unfold bsS
            rw [if_neg (fun hx => by have := (moveB_a hx.1 hmi (by omega)).xs; rw [hc2] at this; cases this)]
        refine wp_exit ?_
        refine e_then (e_blk (?_))
        refine n_then ?_
        refine rg ?_
        refine st (y_add rfl rfl (by omega)) ?_
        refine st (mvI rfl) ?_
        refine rg_end ?_
        exact n_then ⟨(k + 1, _, _), _, rfl, same_lk rfl (same_h0), ⟨rfl, vi (congrArg BSt.o hst.symm), vi (congrArg BSt.i hst.symm), congrArg Value.bool (congrArg BSt.ok hst.symm), rfl, trivial⟩, ⟨hlp1, by omega, by first | exact hls1 | (rw [hst]; exact hls), by first | exact hsn1 | exact hsn, hMp⟩, by first | omega | (dsimp only; omega)⟩
      ·
        have hg29n := hg29; try simp only [decide_eq_true_eq, decide_eq_false_iff_not, Bool.not_eq_true', Bool.not_eq_false', Bool.and_eq_true, Bool.or_eq_true, Bool.or_eq_false_iff, Bool.cond_true_right, Bool.cond_false_right, Bool.cond_true_left, Bool.cond_false_left, ne_eq, Decidable.not_not, bne_iff_ne, beq_iff_eq, beq_eq_false_iff_ne, Bool.not_true, Bool.not_false] at hg29n
        refine stg rfl rfl hg29 (y_lbN hb15 agg36 rfl) ?_
        refine stg rfl rfl hg29 (mvS rfl) ?_
        refine scg rfl rfl hg29 cl42 (simplex_crosses_ok N (el N.acts (k : Int)) (sdL N tree (el tree (i : Int))) _ _ _ _ _ hm hsl ha) rfl ?_
        rintro v34 w30 ⟨rfl, ho31⟩
        have hz35 := ho31.size
        replace hN := hN.ext ho31
        replace hTr := hTr.ext ho31
        replace hT := hT.ext ho31
        replace hE := hE.step ho31 (.inl (Nat.le_refl _))
        replace hb3 := hb3.ext ho31
        replace hlp0 := hlp0.step ho31 (.inl (Nat.le_refl _))
        replace hm := hm.ext ho31
        replace hMp := hMp.ext ho31
        replace hlp1 := hlp1.step ho31 (.inl (Nat.le_refl _))
        replace hb15 := hb15.ext ho31
        refine stg rfl rfl hg29 (y_not rfl) ?_
        refine st (y_pickF rfl hg29 (v := .bool _) rfl) ?_
        refine rg_end ?_
        refine n_then ?_
        refine cnd rfl (fun hc2 => ?_) (fun hc2 => ?_)
        ·
          try simp only [decide_eq_true_eq, decide_eq_false_iff_not, Bool.not_eq_true', Bool.not_eq_false', Bool.and_eq_true, Bool.or_eq_true, Bool.or_eq_false_iff, Bool.cond_true_right, Bool.cond_false_right, Bool.cond_true_left, Bool.cond_false_left, ne_eq, Decidable.not_not, bne_iff_ne, beq_iff_eq, beq_eq_false_iff_ne, Bool.not_true, Bool.not_false] at hc2
          first
          | have hst5 := hst
          | have hst : bsI N tree t (el tree (i : Int)) (bsR N tree t i) (k + 1) = bsI N tree t (el tree (i : Int)) (bsR N tree t i) k := by
              show bsS N tree t _ k _ = _
              unfold bsS
              rw [if_neg (fun hx => by have := (moveB_a hx.1 hmi (by omega)).xs; rw [hc2] at this; cases this)]
          refine wp_exit ?_
          refine e_then (e_blk (?_))
          refine n_then ?_
          refine rg ?_
          refine st (y_add rfl rfl (by omega)) ?_
          refine st (mvI rfl) ?_
          refine rg_end ?_
          exact n_then ⟨(k + 1, _, _), _, rfl, same_lk rfl (same_h0), ⟨rfl, vi (congrArg BSt.o hst.symm), vi (congrArg BSt.i hst.symm), congrArg Value.bool (congrArg BSt.ok hst.symm), rfl, trivial⟩, ⟨hlp1, by omega, by first | exact hls1 | (rw [hst]; exact hls), by first | exact hsn1 | exact hsn, hMp⟩, by first | omega | (dsimp only; omega)⟩
        ·
          try simp only [decide_eq_true_eq, decide_eq_false_iff_not, Bool.not_eq_true', Bool.not_eq_false', Bool.and_eq_true, Bool.or_eq_true, Bool.or_eq_false_iff, Bool.cond_true_right, Bool.cond_false_right, Bool.cond_true_left, Bool.cond_false_left, ne_eq, Decidable.not_not, bne_iff_ne, beq_iff_eq, beq_eq_false_iff_ne, Bool.not_true, Bool.not_false] at hc2
          refine wp_skip ?_
          refine n_then ?_
          refine wp_seq ?_
          refine rgD 7 (fun w_ => Ext w30 w_) (fun i => Nat.beq i 4) mixed (by kernel_rfl) ?_
          intro w36 ho37 hs38
          refine ⟨ho37, ?_⟩
          have hx39 := ho37
          refine tn rfl (fun _ hG => y_lbN (hb3.ext hG) agg26 rfl) ?_
          refine tn rfl (fun _ hG => mvS rfl) ?_
          refine tn rfl (fun _ hG => y_lbN (hb15.ext hG) agg36 rfl) ?_
          refine tn rfl (fun _ hG => mvS rfl) ?_
          refine tc rfl cl60 (simplex_shift_ok N A _ _ t _ _ _ _ (el N.acts (k : Int)) (sdL N tree (el tree (i : Int))) _ _ _ _ _ (hN.ext hx39) (hT.ext hx39) (hm.ext hx39) hsl hg ha) rfl ?_
          rintro v44 w40 ⟨rfl, ho41⟩
          rw [show (if el (sdL N tree (el tree (i : Int))) (el N.acts (k : Int)).fr = true then slk N t (el N.acts (k : Int)) else -slk N t (el N.acts (k : Int))) = moveD N tree t (el tree (i : Int)) (k : Int) from rfl]
          have hx45 := hx39.step ho41 (.inl (Nat.le_refl _))
          have hz46 := ho41.size
          refine ⟨hx45, ?_⟩
          refine tn rfl (fun _ hG => y_fld fld26_0 rfl) ?_
          refine tn rfl (fun _ hG => y_lb (hb3.ext hG) na3 rfl rfl) ?_
          refine t_end ?_
          have hz47 := hx45.size
          replace hN := hN.ext hx45
          replace hTr := hTr.ext hx45
          replace hT := hT.ext hx45
          replace hE := hE.step hx45 (.inl (Nat.le_refl _))
          replace hb3 := hb3.ext hx45
          replace hlp0 := hlp0.step hx45 (.inl (Nat.le_refl _))
          replace hm := hm.ext hx45
          replace hMp := hMp.ext hx45
          replace hlp1 := hlp1.step hx45 (.inl (Nat.le_refl _))
          replace hb15 := hb15.ext hx45
          refine sc cl61 (arith_Mod_ok _ _ _ (by omega) (by omega) (by omega)) rfl ?_
          rintro v52 w48 ⟨rfl, ho49⟩
          obtain ⟨by_, hby⟩ : ∃ b, b = moveD N tree t (el tree (i : Int)) (k : Int) % N.p := ⟨_, rfl⟩
          rw [← hby] at hmf hmc ⊢
          have hb0 : 0 ≤ by_ := by rw [hby]; exact Int.emod_nonneg _ (by omega)
          have hb1 : by_ < N.p := by rw [hby]; exact Int.emod_lt_of_pos _ (by omega)
          have hz53 := ho49.size
          replace hN := hN.ext ho49
          replace hTr := hTr.ext ho49
          replace hT := hT.ext ho49
          replace hE := hE.step ho49 (.inl (Nat.le_refl _))
          replace hb3 := hb3.ext ho49
          replace hlp0 := hlp0.step ho49 (.inl (Nat.le_refl _))
          replace hm := hm.ext ho49
          replace hMp := hMp.ext ho49
          replace hlp1 := hlp1.step ho49 (.inl (Nat.le_refl _))
          replace hb15 := hb15.ext ho49
          refine st (asI rfl) ?_
          refine rg_end ?_
          refine n_then ?_
          refine wp_seq ?_
          refine wp_seq ?_
          refine rg ?_
          refine st (mvM rfl) ?_
          refine st (mvI rfl) ?_
          refine st (y_look (a := by_) hMp (Maps.int_keyed Try.underlying3) Try.underlying89 zer4 (fun c h => (Value.int.inj h).2) (Maps.keyOf_int_mk Try.underlying3 (wf_small (by omega) (by omega))) rfl rfl) ?_
          refine rg_end ?_
          refine n_then ?_
          refine cnd rfl (fun hc3 => ?_) (fun hc3 => ?_)
          ·
            try simp only [decide_eq_true_eq, decide_eq_false_iff_not, Bool.not_eq_true', Bool.not_eq_false', Bool.and_eq_true, Bool.or_eq_true, Bool.or_eq_false_iff, Bool.cond_true_right, Bool.cond_false_right, Bool.cond_true_left, Bool.cond_false_left, ne_eq, Decidable.not_not, bne_iff_ne, beq_iff_eq, beq_eq_false_iff_ne, Bool.not_true, Bool.not_false] at hc3
            have hsk := hsn by_ hc3
            have hst : bsI N tree t (el tree (i : Int)) (bsR N tree t i) (k + 1) = bsI N tree t (el tree (i : Int)) (bsR N tree t i) k := by
              show bsS N tree t _ k _ = _
              unfold bsS
              rw [if_neg (fun hx => by
                have h1 := moveB_f hx.1
                have h2 := hx.2
                rw [hmf] at h1
                rw [hmc] at h2
                have := hsk h1
                omega)]
            refine wp_exit ?_
            refine e_then (e_blk (?_))
            refine n_then ?_
            refine rg ?_
            refine st (y_add rfl rfl (by omega)) ?_
            refine st (mvI rfl) ?_
            refine rg_end ?_
            exact n_then ⟨(k + 1, _, _), _, rfl, same_lk rfl (same_h0), ⟨rfl, vi (congrArg BSt.o hst.symm), vi (congrArg BSt.i hst.symm), congrArg Value.bool (congrArg BSt.ok hst.symm), rfl, trivial⟩, ⟨hlp1, by omega, by first | exact hls1 | (rw [hst]; exact hls), by first | exact hsn1 | exact hsn, hMp⟩, by first | omega | (dsimp only; omega)⟩
          ·
            try simp only [decide_eq_true_eq, decide_eq_false_iff_not, Bool.not_eq_true', Bool.not_eq_false', Bool.and_eq_true, Bool.or_eq_true, Bool.or_eq_false_iff, Bool.cond_true_right, Bool.cond_false_right, Bool.cond_true_left, Bool.cond_false_left, ne_eq, Decidable.not_not, bne_iff_ne, beq_iff_eq, beq_eq_false_iff_ne, Bool.not_true, Bool.not_false] at hc3
            refine wp_skip ?_
            refine n_then ?_
            refine wp_seq ?_
            refine rg ?_
            refine st (mvM rfl) ?_
            refine st (mvI rfl) ?_
            refine sd0 (d_mapU (a := by_) hMp (Maps.int_keyed Try.underlying3) Try.underlying89 (fun c h => (Value.int.inj h).2) (Maps.keyOf_int_mk Try.underlying3 (wf_small (by omega) (by omega))) rfl rfl rfl ?_)
            intro w54 hs56 ho55 hMp'
            clear hMp; have hMp := hMp'; clear hMp'
            have hz57 := ho55.size
            replace hN := hN.out ho55 (by first | omega | (simp only [blk_some, hi1_some] at *; omega))
            replace hTr := hTr.out ho55 (by first | omega | (simp only [blk_some, hi1_some] at *; omega))
            replace hT := hT.out ho55 (by first | omega | (simp only [blk_some, hi1_some] at *; omega))
            replace hE := hE.step ho55 (by first | omega | (simp only [blk_some, hi1_some] at *; omega))
            replace hb3 := hb3.out ho55 (by first | omega | (simp only [blk_some, hi1_some] at *; omega))
            replace hlp0 := hlp0.step ho55 (by first | omega | (simp only [blk_some, hi1_some] at *; omega))
            replace hm := hm.out ho55 (by first | omega | (simp only [blk_some, hi1_some] at *; omega))
            replace hlp1 := hlp1.step ho55 (by first | omega | (simp only [blk_some, hi1_some] at *; omega))
            replace hb15 := hb15.out ho55 (by first | omega | (simp only [blk_some, hi1_some] at *; omega))
            rw [if_neg hc3] at hMp
            refine rg_end ?_
            refine n_then ?_
            refine wp_seq ?_
            refine rg ?_
            refine st (y_lbN hb3 agg26 rfl) ?_
            refine st (mvS rfl) ?_
            refine st (mvS rfl) ?_
            refine st (mvI rfl) ?_
            refine sc cl66 (simplex_gain_ok N A _ _ t _ _ _ _ (sdL N tree (el tree (i : Int))) _ _ _ _ by_ _ hN hT hm hsl hg ⟨hb0, hb1⟩) rfl ?_
            rintro v62 w58 ⟨gc, gf, rfl, hgf, hgc, ho59⟩
            have hz63 := ho59.size
            replace hN := hN.ext ho59
            replace hTr := hTr.ext ho59
            replace hT := hT.ext ho59
            replace hE := hE.step ho59 (.inl (Nat.le_refl _))
            replace hb3 := hb3.ext ho59
            replace hlp0 := hlp0.step ho59 (.inl (Nat.le_refl _))
            replace hm := hm.ext ho59
            replace hMp := hMp.ext ho59
            replace hlp1 := hlp1.step ho59 (.inl (Nat.le_refl _))
            replace hb15 := hb15.ext ho59
            refine st (mvT rfl) ?_
            refine st (y_ext rfl rfl) ?_
            refine st (y_ext rfl rfl) ?_
            refine st (asI rfl) ?_
            refine st (asB rfl) ?_
            refine rg_end ?_
            refine n_then ?_
            refine wp_seq ?_
            refine rg ?_
            refine st (mvB rfl) ?_
            refine st (mvB rfl) ?_
            refine gspL 69 rfl (fun hg64 => ?_) (fun hg64 => ?_)
            ·
              have hg64n := hg64; try simp only [decide_eq_true_eq, decide_eq_false_iff_not, Bool.not_eq_true', Bool.not_eq_false', Bool.and_eq_true, Bool.or_eq_true, Bool.or_eq_false_iff, Bool.cond_true_right, Bool.cond_false_right, Bool.cond_true_left, Bool.cond_false_left, ne_eq, Decidable.not_not, bne_iff_ne, beq_iff_eq, beq_eq_false_iff_ne, Bool.not_true, Bool.not_false] at hg64n
              have hgk : gnOk N (sdL N tree (el tree (i : Int))) t by_ = true := by rw [← hgf]; first | assumption | (simp_all)
              have hgc1 := hgc (hgf.trans hgk)
              refine stg rfl rfl hg64 (mvI rfl) ?_
              refine stg rfl rfl hg64 (mvI rfl) ?_
              refine stg rfl rfl hg64 (y_lss rfl rfl) ?_
              refine st (y_pickT rfl hg64 (v := .bool _) rfl) ?_
              refine rg_end ?_
              refine n_then ?_
              refine cnd rfl (fun hc4 => ?_) (fun hc4 => ?_)
              ·
                try simp only [decide_eq_true_eq, decide_eq_false_iff_not, Bool.not_eq_true', Bool.not_eq_false', Bool.and_eq_true, Bool.or_eq_true, Bool.or_eq_false_iff, Bool.cond_true_right, Bool.cond_false_right, Bool.cond_true_left, Bool.cond_false_left, ne_eq, Decidable.not_not, bne_iff_ne, beq_iff_eq, beq_eq_false_iff_ne, Bool.not_true, Bool.not_false] at hc4
                have hxb : moveB N tree t (el tree (i : Int)) (k : Int) = true := by
                  unfold moveB
                  rw [hmf, hgk, hc2]
                  have : (k : Int) ≠ (el tree (i : Int)) := by first | omega | assumption
                  simp [this]
                have hst : bsI N tree t (el tree (i : Int)) (bsR N tree t i) (k + 1) = ⟨(el tree (i : Int)), (k : Int), true, costD N (moveT N tree t (el tree (i : Int)) (k : Int))⟩ := by
                  show bsS N tree t _ k _ = _
                  unfold bsS
                  rw [if_pos ⟨hxb, by rw [hmc]; omega⟩]
                have hsn1 : ∀ b ∈ sn ++ [by_], gnOk N (sdL N tree (el tree (i : Int))) t b = true → gc ≤ gnC N (sdL N tree (el tree (i : Int))) t b := fun b hb hh => by
                  rcases List.mem_append.1 hb with q | q
                  · have := hsn b q hh; omega
                  · rw [List.mem_singleton.1 q, hgc1]; exact Int.le_refl _
                have hls1 : gc = (bsI N tree t (el tree (i : Int)) (bsR N tree t i) (k + 1)).c - costD N t := by rw [hst]; show gc = costD N (moveT N tree t (el tree (i : Int)) (k : Int)) - costD N t; omega
                refine rg ?_
                refine st (mvI rfl) ?_
                refine st (mvI rfl) ?_
                refine st (mvI rfl) ?_
                refine st (asI rfl) ?_
                refine st (asI rfl) ?_
                refine st (asB rfl) ?_
                refine st (asI rfl) ?_
                refine rg_end ?_
                refine n_blk ?_
                refine n_then ?_
                refine rg ?_
                refine st (y_add rfl rfl (by omega)) ?_
                refine st (mvI rfl) ?_
                refine rg_end ?_
                exact n_then ⟨(k + 1, _, _), _, rfl, same_lk rfl (same_h0), ⟨rfl, vi (congrArg BSt.o hst.symm), vi (congrArg BSt.i hst.symm), congrArg Value.bool (congrArg BSt.ok hst.symm), rfl, trivial⟩, ⟨hlp1, by omega, by first | exact hls1 | (rw [hst]; exact hls), by first | exact hsn1 | exact hsn, hMp⟩, by first | omega | (dsimp only; omega)⟩
              ·
                try simp only [decide_eq_true_eq, decide_eq_false_iff_not, Bool.not_eq_true', Bool.not_eq_false', Bool.and_eq_true, Bool.or_eq_true, Bool.or_eq_false_iff, Bool.cond_true_right, Bool.cond_false_right, Bool.cond_true_left, Bool.cond_false_left, ne_eq, Decidable.not_not, bne_iff_ne, beq_iff_eq, beq_eq_false_iff_ne, Bool.not_true, Bool.not_false] at hc4
                first
                | have hst5 := hst
                | have hst : bsI N tree t (el tree (i : Int)) (bsR N tree t i) (k + 1) = bsI N tree t (el tree (i : Int)) (bsR N tree t i) k := by
                    show bsS N tree t _ k _ = _
                    unfold bsS
                    rw [if_neg (fun hx => by have h2 := hx.2; rw [hmc] at h2; omega)]
                  have hsn1 : ∀ b ∈ sn ++ [by_], gnOk N (sdL N tree (el tree (i : Int))) t b = true → ls ≤ gnC N (sdL N tree (el tree (i : Int))) t b := fun b hb hh => by
                    rcases List.mem_append.1 hb with q | q
                    · exact hsn b q hh
                    · rw [List.mem_singleton.1 q]; omega
                refine wp_skip ?_
                refine n_blk ?_
                refine n_then ?_
                refine rg ?_
                refine st (y_add rfl rfl (by omega)) ?_
                refine st (mvI rfl) ?_
                refine rg_end ?_
                exact n_then ⟨(k + 1, _, _), _, rfl, same_lk rfl (same_h0), ⟨rfl, vi (congrArg BSt.o hst.symm), vi (congrArg BSt.i hst.symm), congrArg Value.bool (congrArg BSt.ok hst.symm), rfl, trivial⟩, ⟨hlp1, by omega, by first | exact hls1 | (rw [hst]; exact hls), by first | exact hsn1 | exact hsn, hMp⟩, by first | omega | (dsimp only; omega)⟩
            ·
              have hg64n := hg64; try simp only [decide_eq_true_eq, decide_eq_false_iff_not, Bool.not_eq_true', Bool.not_eq_false', Bool.and_eq_true, Bool.or_eq_true, Bool.or_eq_false_iff, Bool.cond_true_right, Bool.cond_false_right, Bool.cond_true_left, Bool.cond_false_left, ne_eq, Decidable.not_not, bne_iff_ne, beq_iff_eq, beq_eq_false_iff_ne, Bool.not_true, Bool.not_false] at hg64n
              have hgk : gnOk N (sdL N tree (el tree (i : Int))) t by_ = false := by rw [← hgf]; first | assumption | (simp_all)
              have hst : bsI N tree t (el tree (i : Int)) (bsR N tree t i) (k + 1) = bsI N tree t (el tree (i : Int)) (bsR N tree t i) k := by
                show bsS N tree t _ k _ = _
                unfold bsS
                rw [if_neg (fun hx => by have h1 := moveB_f hx.1; rw [hmf, hgk] at h1; cases h1)]
              have hsn1 : ∀ b ∈ sn ++ [by_], gnOk N (sdL N tree (el tree (i : Int))) t b = true → ls ≤ gnC N (sdL N tree (el tree (i : Int))) t b := fun b hb => by
                rcases List.mem_append.1 hb with q | q
                · exact hsn b q
                · rw [List.mem_singleton.1 q, hgk]; intro h; cases h
              refine sts rfl rfl hg64 ?_
              refine sts rfl rfl hg64 ?_
              refine sts rfl rfl hg64 ?_
              refine st (y_pickF rfl hg64 (v := .bool _) rfl) ?_
              refine rg_end ?_
              refine n_then ?_
              refine cnd rfl (fun hc4 => absurd hc4 (by decide)) (fun hc4 => ?_)
              first
              | have hst5 := hst
              | have hst : bsI N tree t (el tree (i : Int)) (bsR N tree t i) (k + 1) = bsI N tree t (el tree (i : Int)) (bsR N tree t i) k := by
                  show bsS N tree t _ k _ = _
                  unfold bsS
                  rw [if_neg (fun hx => by have h2 := hx.2; rw [hmc] at h2; omega)]
                have hsn1 : ∀ b ∈ sn ++ [by_], gnOk N (sdL N tree (el tree (i : Int))) t b = true → ls ≤ gnC N (sdL N tree (el tree (i : Int))) t b := fun b hb hh => by
                  rcases List.mem_append.1 hb with q | q
                  · exact hsn b q hh
                  · rw [List.mem_singleton.1 q]; omega
              refine wp_skip ?_
              refine n_blk ?_
              refine n_then ?_
              refine rg ?_
              refine st (y_add rfl rfl (by omega)) ?_
              refine st (mvI rfl) ?_
              refine rg_end ?_
              exact n_then ⟨(k + 1, _, _), _, rfl, same_lk rfl (same_h0), ⟨rfl, vi (congrArg BSt.o hst.symm), vi (congrArg BSt.i hst.symm), congrArg Value.bool (congrArg BSt.ok hst.symm), rfl, trivial⟩, ⟨hlp1, by omega, by first | exact hls1 | (rw [hst]; exact hls), by first | exact hsn1 | exact hsn, hMp⟩, by first | omega | (dsimp only; omega)⟩
    ·
      try simp only [decide_eq_true_eq, decide_eq_false_iff_not, Bool.not_eq_true', Bool.not_eq_false', Bool.and_eq_true, Bool.or_eq_true, Bool.or_eq_false_iff, Bool.cond_true_right, Bool.cond_false_right, Bool.cond_true_left, Bool.cond_false_left, ne_eq, Decidable.not_not, bne_iff_ne, beq_iff_eq, beq_eq_false_iff_ne, Bool.not_true, Bool.not_false] at hc1
      have hke : k = N.acts.length := by omega
      subst hke
      refine wp_exit ?_
      refine e_then (e_then (e_blk (?_)))
      refine n_blk ?_
      refine n_then ?_
      refine rg ?_
      refine st (y_add rfl rfl (by omega)) ?_
      refine st (mvI rfl) ?_
      refine rg_end ?_
      exact n_then ⟨(i + 1, ls), _, rfl, same_lk rfl (same_hav rfl (same_lk rfl (same_h0))), ⟨rfl, rfl, rfl, rfl, rfl, trivial⟩, ⟨hlp0, by omega, hls⟩, by first | omega | (dsimp only; omega)⟩
  ·
    try simp only [decide_eq_true_eq, decide_eq_false_iff_not, Bool.not_eq_true', Bool.not_eq_false', Bool.and_eq_true, Bool.or_eq_true, Bool.or_eq_false_iff, Bool.cond_true_right, Bool.cond_false_right, Bool.cond_true_left, Bool.cond_false_left, ne_eq, Decidable.not_not, bne_iff_ne, beq_iff_eq, beq_eq_false_iff_ne, Bool.not_true, Bool.not_false] at hc0
    have hie : i = tree.length := by omega
    subst hie
    refine wp_exit ?_
    refine e_then (e_then (e_blk (?_)))
    refine n_then ?_
    refine wp_seq ?_
    refine rg ?_
    refine st (mvI rfl) ?_
    refine st (mvI rfl) ?_
    refine st (mvB rfl) ?_
    refine st (asI rfl) ?_
    refine st (asI rfl) ?_
    refine st (asB rfl) ?_
    refine rg_end ?_
    refine n_then ?_
    refine wp_ret ?_
    refine ret3 (v := (.int .i64 _)) (v' := (.int .i64 _)) (v'' := (.bool _)) Try.results50 rfl rfl rfl ?_
    exact ⟨rfl, hE⟩

set_option maxRecDepth 100000 in
theorem simplex_Best_ok (N : Net) (A : NetA) (lo hi : Nat) (tree : List Int) (ar : Option Addr) (cr lr hr_ : Nat) (t : List Int) (at_ : Option Addr) (ct : Nat) (lt ht : Nat) (w : World) (hN : NetIn lo hi w N A) (hTr : Ints lr hr_ w ar tree) (htn : (tree.length : Int) ≤ 9223372036854775807) (hT : Ints lt ht w at_ t)  : Cal Try.prog 27 [netV N A, .slice ar tree.length cr, .slice at_ t.length ct] w (fun v w' => ∃ o n_ ob e, v = .tuple #[.int .i64 o, .int .i64 n_, .bool ob, .int .i64 e] ∧ BsR N tree t o n_ ob e ∧ Ext w w') := by
  replace hN := hN.full
  replace hTr := Ints.full hTr
  replace hT := Ints.full hT
  have hE : Out 0 0 w w := Out.refl _ _ w
  refine enter Try.func27 rfl Try.ntmps27 rfl ?_
  refine wp_seq ?_
  refine rg ?_
  refine sd (d_boxA rfl ?_)
  intro b3 w1 hbb3 hs3 ho2 hb3
  have hz4 := ho2.size
  replace hN := hN.ext ho2
  replace hTr := hTr.ext ho2
  replace hT := hT.ext ho2
  replace hE := hE.step ho2 (.inl (Nat.le_refl _))
  refine st (asI rfl) ?_
  refine st (asI rfl) ?_
  refine st (asB rfl) ?_
  refine st (asI rfl) ?_
  refine rg_end ?_
  refine n_then ?_
  refine wp_seq ?_
  refine wp_seq ?_
  refine rg ?_
  refine st (y_lbN hb3 agg26 rfl) ?_
  refine st (mvS rfl) ?_
  refine st (mvS rfl) ?_
  refine sc cl41 (simplex_check_ok N A _ _ tree _ _ _ _ t _ _ _ _ _ hN hTr htn hT) rfl ?_
  rintro v9 w5 ⟨e0, rfl, hch, ho6⟩
  have hz10 := ho6.size
  replace hN := hN.ext ho6
  replace hTr := hTr.ext ho6
  replace hT := hT.ext ho6
  replace hE := hE.step ho6 (.inl (Nat.le_refl _))
  replace hb3 := hb3.ext ho6
  refine st (asI rfl) ?_
  refine rg_end ?_
  refine n_then ?_
  refine wp_seq ?_
  refine rg ?_
  refine st (mvI rfl) ?_
  refine st (y_neq rfl rfl) ?_
  refine rg_end ?_
  refine n_then ?_
  refine cnd rfl (fun hc0 => ?_) (fun hc0 => ?_)
  ·
    try simp only [decide_eq_true_eq, decide_eq_false_iff_not, Bool.not_eq_true', Bool.not_eq_false', Bool.and_eq_true, Bool.or_eq_true, Bool.or_eq_false_iff, Bool.cond_true_right, Bool.cond_false_right, Bool.cond_true_left, Bool.cond_false_left, ne_eq, Decidable.not_not, bne_iff_ne, beq_iff_eq, beq_eq_false_iff_ne, Bool.not_true, Bool.not_false] at hc0
    have hno : ¬ (FoOk N tree ∧ feas N t = true) := by
      rcases hch with h | h
      · exact absurd h.1 hc0
      · exact h.2
    have he1 : e0 = 1 := by
      rcases hch with h | h
      · exact absurd h.1 hc0
      · exact h.1
    subst he1
    refine wp_seq ?_
    refine rg ?_
    refine st (mvI rfl) ?_
    refine st (asI rfl) ?_
    refine st (asI rfl) ?_
    refine st (asB rfl) ?_
    refine st (asI rfl) ?_
    refine rg_end ?_
    refine n_then ?_
    refine wp_ret ?_
    refine r_then (ret4 (v := (.int .i64 _)) (v' := (.int .i64 _)) (v'' := (.bool _)) (v3 := (.int .i64 _)) Try.results27 rfl rfl rfl rfl ?_)
    exact ⟨0, 0, false, 1, rfl, ⟨fun _ => ⟨rfl, rfl, rfl, rfl⟩, fun h1 h2 => absurd ⟨h1, h2⟩ hno⟩, hE⟩
  ·
    try simp only [decide_eq_true_eq, decide_eq_false_iff_not, Bool.not_eq_true', Bool.not_eq_false', Bool.and_eq_true, Bool.or_eq_true, Bool.or_eq_false_iff, Bool.cond_true_right, Bool.cond_false_right, Bool.cond_true_left, Bool.cond_false_left, ne_eq, Decidable.not_not, bne_iff_ne, beq_iff_eq, beq_eq_false_iff_ne, Bool.not_true, Bool.not_false] at hc0
    obtain ⟨hfo, hft⟩ : FoOk N tree ∧ feas N t = true := by
      rcases hch with h | h
      · exact h.2
      · omega
    have hok := hfo.ok
    have hac := hok.ac
    have hmem := hfo.mem
    have hg := (feas_iff.1 hft).1
    refine wp_skip ?_
    refine n_then ?_
    refine wp_seq ?_
    refine rg ?_
    refine st (y_lbN hb3 agg26 rfl) ?_
    refine st (mvS rfl) ?_
    refine st (mvS rfl) ?_
    refine sc cl50 (simplex_best_ok N A _ _ tree _ _ _ _ t _ _ _ _ _ hN hTr htn hT hfo hft) rfl ?_
    rintro v15 w11 ⟨rfl, ho12⟩
    have hz16 := ho12.size
    replace hN := hN.ext ho12
    replace hTr := hTr.ext ho12
    replace hT := hT.ext ho12
    replace hE := hE.step ho12 (.inl (Nat.le_refl _))
    replace hb3 := hb3.ext ho12
    refine st (mvT rfl) ?_
    refine st (y_ext rfl rfl) ?_
    refine st (y_ext rfl rfl) ?_
    refine st (y_ext rfl rfl) ?_
    refine st (asI rfl) ?_
    refine st (asI rfl) ?_
    refine st (asB rfl) ?_
    refine rg_end ?_
    refine n_then ?_
    refine wp_seq ?_
    refine rg ?_
    refine st (mvI rfl) ?_
    refine st (mvI rfl) ?_
    refine st (mvB rfl) ?_
    refine st (asI rfl) ?_
    refine st (asI rfl) ?_
    refine st (asB rfl) ?_
    refine st (asI rfl) ?_
    refine rg_end ?_
    refine n_then ?_
    refine wp_ret ?_
    refine ret4 (v := (.int .i64 _)) (v' := (.int .i64 _)) (v'' := (.bool _)) (v3 := (.int .i64 _)) Try.results27 rfl rfl rfl rfl ?_
    exact ⟨_, _, _, 0, rfl, ⟨fun h => absurd ⟨hfo, hft⟩ h, fun _ _ => ⟨rfl, rfl, rfl, rfl⟩⟩, hE⟩
end Go.Proofs.Ytgekfafangcggaa
