/-
  Walks of the functions, printed by a program out of the code and the loops' relations.
-/
import Derived.Test.YtdbiapbdmmkfjaaWkH
import Derived.Test.YtdbiapbdmmkfjaaProg
import Derived.KernelRfl
import Derived.Test.YtdbiapbdmmkfjaaG9
namespace Go.Proofs.Ytdbiapbdmmkfjaa
open Go.Wk Go.RowKit
set_option linter.unusedVariables false
set_option linter.unusedSimpArgs false
theorem cl31 : Callable Try.prog 31 := ⟨Try.call31⟩
theorem cl33 : Callable Try.prog 33 := ⟨Try.call33⟩
theorem cl55 : Callable Try.prog 55 := ⟨Try.call55⟩
theorem cl56 : Callable Try.prog 56 := ⟨Try.call56⟩

set_option maxHeartbeats 2000000 in
set_option maxRecDepth 100000 in
theorem ref13_Best_ok (N : Net) (A : NetA) (lo hi : Nat) (tree : List Int) (ar : Option Addr) (cr lr hr_ : Nat) (t : List Int) (at_ : Option Addr) (ct : Nat) (lt ht : Nat) (w : World) (hN : NetIn lo hi w N A) (hTr : Ints lr hr_ w ar tree) (htn : (tree.length : Int) ≤ 1000000) (hT : Ints lt ht w at_ t)  : Cal Try.prog 55 [netV N A, .slice ar tree.length cr, .slice at_ t.length ct] w (fun v w' => ∃ o n_ ob e, v = .tuple #[.int .i64 o, .int .i64 n_, .bool ob, .int .i64 e] ∧ (ob = true → MvOk N tree t o n_ ∧ 0 ≤ n_) ∧ Ext w w') := by
  replace hN := hN.full
  replace hTr := Ints.full hTr
  replace hT := Ints.full hT
  have hE : Out 0 0 w w := Out.refl _ _ w
  refine enter Try.func55 rfl Try.ntmps55 rfl ?_
  refine wp_seq ?_
  refine rg ?_
  refine sd (d_boxA rfl ?_)
  intro b3 w1 hbb3 hs3 ho2 hb3
  have hz4 := ho2.size
  replace hN := hN.ext ho2
  replace hTr := hTr.ext ho2
  replace hT := hT.ext ho2
  replace hE := hE.step ho2 (.inl (Nat.le_refl _))
  refine st (asI rfl) ?_
  refine st (asI rfl) ?_
  refine st (asB rfl) ?_
  refine st (asI rfl) ?_
  refine rg_end ?_
  refine n_then ?_
  refine wp_seq ?_
  refine wp_seq ?_
  refine rg ?_
  refine st (y_lbN hb3 agg26 rfl) ?_
  refine st (mvS rfl) ?_
  refine sc cl47 (ref11_Forest_ok N A _ _ tree _ _ _ _ _ hN hTr (by omega)) rfl ?_
  rintro v9 w5 ⟨b, rfl, hb, ho6⟩
  have hz10 := ho6.size
  replace hN := hN.ext ho6
  replace hTr := hTr.ext ho6
  replace hT := hT.ext ho6
  replace hE := hE.step ho6 (.inl (Nat.le_refl _))
  replace hb3 := hb3.ext ho6
  refine st (y_not rfl) ?_
  refine st (mvB rfl) ?_
  refine gspL 23 rfl (fun hg11 => ?_) (fun hg11 => ?_)
  ·
    have hg11n := hg11; try simp only [decide_eq_true_eq, decide_eq_false_iff_not, Bool.not_eq_true', Bool.not_eq_false', Bool.and_eq_true, Bool.or_eq_true, Bool.or_eq_false_iff, Bool.cond_true_right, Bool.cond_false_right, Bool.cond_true_left, Bool.cond_false_left, ne_eq, Decidable.not_not, bne_iff_ne, beq_iff_eq, beq_eq_false_iff_ne, Bool.not_true, Bool.not_false] at hg11n
    refine sts rfl rfl hg11 ?_
    refine sts rfl rfl hg11 ?_
    refine sts rfl rfl hg11 ?_
    refine sts rfl rfl hg11 ?_
    refine st (y_pickT rfl hg11 (v := .bool _) rfl) ?_
    refine rg_end ?_
    refine n_then ?_
    refine cnd rfl (fun hc0 => ?_) (fun hc0 => absurd hc0 (by decide))
    refine wp_seq ?_
    refine rg ?_
    refine st (asI rfl) ?_
    refine st (asI rfl) ?_
    refine st (asB rfl) ?_
    refine st (asI rfl) ?_
    refine rg_end ?_
    refine n_then ?_
    refine wp_ret ?_
    refine r_then (ret4 (v := (.int .i64 _)) (v' := (.int .i64 _)) (v'' := (.bool _)) (v3 := (.int .i64 _)) Try.results55 rfl rfl rfl rfl ?_)
    exact ⟨0, 0, false, 1, rfl, (fun h => by cases h), hE⟩
  ·
    have hg11n := hg11; try simp only [decide_eq_true_eq, decide_eq_false_iff_not, Bool.not_eq_true', Bool.not_eq_false', Bool.and_eq_true, Bool.or_eq_true, Bool.or_eq_false_iff, Bool.cond_true_right, Bool.cond_false_right, Bool.cond_true_left, Bool.cond_false_left, ne_eq, Decidable.not_not, bne_iff_ne, beq_iff_eq, beq_eq_false_iff_ne, Bool.not_true, Bool.not_false] at hg11n
    refine stg rfl rfl hg11 (y_lbN hb3 agg26 rfl) ?_
    refine stg rfl rfl hg11 (mvS rfl) ?_
    refine scg rfl rfl hg11 cl25 (ref11_Feasible_ok N A _ _ t _ _ _ _ _ hN hT) rfl ?_
    rintro v16 w12 ⟨rfl, ho13⟩
    have hz17 := ho13.size
    replace hN := hN.ext ho13
    replace hTr := hTr.ext ho13
    replace hT := hT.ext ho13
    replace hE := hE.step ho13 (.inl (Nat.le_refl _))
    replace hb3 := hb3.ext ho13
    refine stg rfl rfl hg11 (y_not rfl) ?_
    refine st (y_pickF rfl hg11 (v := .bool _) rfl) ?_
    refine rg_end ?_
    refine n_then ?_
    refine cnd rfl (fun hc0 => ?_) (fun hc0 => ?_)
    ·
      try simp only [decide_eq_true_eq, decide_eq_false_iff_not, Bool.not_eq_true', Bool.not_eq_false', Bool.and_eq_true, Bool.or_eq_true, Bool.or_eq_false_iff, Bool.cond_true_right, Bool.cond_false_right, Bool.cond_true_left, Bool.cond_false_left, ne_eq, Decidable.not_not, bne_iff_ne, beq_iff_eq, beq_eq_false_iff_ne, Bool.not_true, Bool.not_false] at hc0
      refine wp_seq ?_
      refine rg ?_
      refine st (asI rfl) ?_
      refine st (asI rfl) ?_
      refine st (asB rfl) ?_
      refine st (asI rfl) ?_
      refine rg_end ?_
      refine n_then ?_
      refine wp_ret ?_
      refine r_then (ret4 (v := (.int .i64 _)) (v' := (.int .i64 _)) (v'' := (.bool _)) (v3 := (.int .i64 _)) Try.results55 rfl rfl rfl rfl ?_)
      exact ⟨0, 0, false, 1, rfl, (fun h => by cases h), hE⟩
    ·
      try simp only [decide_eq_true_eq, decide_eq_false_iff_not, Bool.not_eq_true', Bool.not_eq_false', Bool.and_eq_true, Bool.or_eq_true, Bool.or_eq_false_iff, Bool.cond_true_right, Bool.cond_false_right, Bool.cond_true_left, Bool.cond_false_left, ne_eq, Decidable.not_not, bne_iff_ne, beq_iff_eq, beq_eq_false_iff_ne, Bool.not_true, Bool.not_false] at hc0
      have hbt : b = true := by assumption
      have hfo := hb.1 hbt
      have hok := hfo.ok
      have hac := hok.ac
      refine wp_skip ?_
      refine n_then ?_
      refine wp_seq ?_
      refine rg ?_
      refine st (y_lbN hb3 agg26 rfl) ?_
      refine st (mvS rfl) ?_
      refine sc cl26 (ref11_Cost_ok N A _ _ t _ _ _ _ _ hN hT) rfl ?_
      rintro v22 w18 ⟨cb, ecb, rfl, gcb, bcb, ho19⟩
      have hz23 := ho19.size
      replace hN := hN.ext ho19
      replace hTr := hTr.ext ho19
      replace hT := hT.ext ho19
      replace hE := hE.step ho19 (.inl (Nat.le_refl _))
      replace hb3 := hb3.ext ho19
      refine st (mvT rfl) ?_
      refine st (y_ext rfl rfl) ?_
      refine st (y_ext rfl rfl) ?_
      refine st (asI rfl) ?_
      refine st (asI rfl) ?_
      refine rg_end ?_
      refine n_then ?_
      refine wp_seq ?_
      refine wp_seq ?_
      refine rg ?_
      refine st (asI rfl) ?_
      refine rg_end ?_
      refine n_then ?_
      refine wp_block ?_
      refine lp (γ := Nat × Int × Int × Int × Bool) [6, 7, 8, 10, 12, 13, 14, 15, 16, 17, 18, 35, 36, 37, 38, 39, 40, 41, 42, 43, 44, 45, 46, 47, 48, 49, 50, 51, 52, 53, 54, 55, 56, 57, 58, 59, 60, 61, 62, 63, 64, 65, 66, 67, 68, 69, 70, 71, 72, 73, 74, 75, 76, 77] (fun ⟨i, bs, o, n_, ob⟩ => [(12, .int .i64 (i : Int)), (10, .int .i64 bs), (6, .int .i64 o), (7, .int .i64 n_), (8, .bool ob)]) (fun ⟨i, bs, o, n_, ob⟩ w_ => Ext w18 w_ ∧ (i : Int) ≤ tree.length ∧ (ob = true → MvOk N tree t o n_ ∧ 0 ≤ n_)) (fun ⟨i, bs, o, n_, ob⟩ => tree.length - i) (0, cb, 0, 0, false) ⟨rfl, rfl, rfl, rfl, rfl, trivial⟩ ⟨Out.refl _ _ _, by omega, (fun h => by cases h)⟩ ?_
      rintro ⟨i, bs, o, n_, ob⟩ hav_ w24 ⟨ho25, hi_, hbi⟩
      have hlp0 := ho25
      have hz26 := ho25.size
      replace hN := hN.ext ho25
      replace hTr := hTr.ext ho25
      replace hT := hT.ext ho25
      replace hE := hE.step ho25 (.inl (Nat.le_refl _))
      replace hb3 := hb3.ext ho25
      refine wp_seq ?_
      refine wp_seq ?_
      refine rg ?_
      refine st (mvI rfl) ?_
      refine st (mvS rfl) ?_
      refine st (y_len Try.underlying22 rfl) ?_
      refine st (y_lss rfl rfl) ?_
      refine rg_end ?_
      refine n_then ?_
      refine cnd rfl (fun hc1 => ?_) (fun hc1 => ?_)
      ·
        try simp only [decide_eq_true_eq, decide_eq_false_iff_not, Bool.not_eq_true', Bool.not_eq_false', Bool.and_eq_true, Bool.or_eq_true, Bool.or_eq_false_iff, Bool.cond_true_right, Bool.cond_false_right, Bool.cond_true_left, Bool.cond_false_left, ne_eq, Decidable.not_not, bne_iff_ne, beq_iff_eq, beq_eq_false_iff_ne, Bool.not_true, Bool.not_false] at hc1
        refine wp_skip ?_
        refine n_then ?_
        refine wp_seq ?_
        refine wp_block ?_
        refine wp_seq ?_
        refine rg ?_
        refine st (asI rfl) ?_
        refine rg_end ?_
        refine n_then ?_
        refine wp_block ?_
        refine lp (γ := Nat × Int × Int × Int × Bool) [6, 7, 8, 10, 13, 14, 15, 16, 17, 18, 41, 42, 43, 44, 45, 46, 47, 48, 49, 50, 51, 52, 53, 54, 55, 56, 57, 58, 59, 60, 61, 62, 63, 64, 65, 66, 67, 68, 69, 70, 71, 72, 73, 74, 75, 76, 77] (fun ⟨k, bs, o, n_, ob⟩ => [(13, .int .i64 (k : Int)), (10, .int .i64 bs), (6, .int .i64 o), (7, .int .i64 n_), (8, .bool ob)]) (fun ⟨k, bs, o, n_, ob⟩ w_ => Ext w24 w_ ∧ (k : Int) ≤ N.acts.length ∧ (ob = true → MvOk N tree t o n_ ∧ 0 ≤ n_)) (fun ⟨k, bs, o, n_, ob⟩ => N.acts.length - k) (0, bs, o, n_, ob) ⟨rfl, rfl, rfl, rfl, rfl, trivial⟩ ⟨Out.refl _ _ _, by omega, hbi⟩ ?_
        rintro ⟨k, bs, o, n_, ob⟩ hav_ w27 ⟨ho28, hk_, hbi⟩
        have hlp1 := ho28
        have hz29 := ho28.size
        replace hN := hN.ext ho28
        replace hTr := hTr.ext ho28
        replace hT := hT.ext ho28
        replace hE := hE.step ho28 (.inl (Nat.le_refl _))
        replace hb3 := hb3.ext ho28
        replace hlp0 := hlp0.step ho28 (.inl (Nat.le_refl _))
        refine wp_seq ?_
        refine wp_seq ?_
        refine rg ?_
        refine st (mvI rfl) ?_
        refine st (y_fld fld26_2 rfl) ?_
        refine st (y_lb hb3 na24 rfl rfl) ?_
        refine st (y_len Try.underlying24 rfl) ?_
        refine st (y_lss rfl rfl) ?_
        refine rg_end ?_
        refine n_then ?_
        refine cnd rfl (fun hc2 => ?_) (fun hc2 => ?_)
        ·
          try simp only [decide_eq_true_eq, decide_eq_false_iff_not, Bool.not_eq_true', Bool.not_eq_false', Bool.and_eq_true, Bool.or_eq_true, Bool.or_eq_false_iff, Bool.cond_true_right, Bool.cond_false_right, Bool.cond_true_left, Bool.cond_false_left, ne_eq, Decidable.not_not, bne_iff_ne, beq_iff_eq, beq_eq_false_iff_ne, Bool.not_true, Bool.not_false] at hc2
          refine wp_skip ?_
          refine n_then ?_
          refine wp_seq ?_
          refine wp_block ?_
          refine wp_seq ?_
          refine rgD 15 (fun w_ => Ext w27 w_) (fun i => Nat.beq i 8) mixed (by kernel_rfl) ?_
          intro w30 ho31 hs32
          refine ⟨ho31, ?_⟩
          have hx33 := ho31
          refine tn rfl (fun _ hG => y_lbN (hb3.ext hG) agg26 rfl) ?_
          refine tn rfl (fun _ hG => mvS rfl) ?_
          refine tn rfl (fun _ hG => mvS rfl) ?_
          refine tn rfl (fun _ hG => mvS rfl) ?_
          refine tn rfl (fun _ hG => mvI rfl) ?_
          refine tn rfl (fun _ hG => y_ix (hTr.ext hG) sl22 rfl (rfl) rfl (by omega) (by omega)) ?_
          refine tn rfl (fun _ hG => y_le (hTr.ext hG) na3 rfl (by omega) (by omega) rfl) ?_
          refine tn rfl (fun _ hG => mvI rfl) ?_
          refine tc rfl cl56 (ref13_Move_ok N A _ _ tree _ _ _ _ t _ _ _ _ (el tree (i : Int)) (k : Int) _ (hN.ext hx33) (hTr.ext hx33) (by omega) (hT.ext hx33) (by omega)) rfl ?_
          rintro v38 w34 ⟨af, cf, f, a1, c1, Tn, e, rfl, hF, hTn, hfl, hmv, hfe, ho35⟩
          have hx39 := hx33.step ho35 (.inl (Nat.le_refl _))
          have hz40 := ho35.size
          refine ⟨hx39, ?_⟩
          refine tn rfl (fun _ hG => mvT rfl) ?_
          refine tn rfl (fun _ hG => y_ext rfl rfl) ?_
          refine tn rfl (fun _ hG => y_ext rfl rfl) ?_
          refine tn rfl (fun _ hG => y_ext rfl rfl) ?_
          refine tn rfl (fun _ hG => asS rfl) ?_
          refine tn rfl (fun _ hG => asS rfl) ?_
          refine t_end ?_
          have hz41 := hx39.size
          replace hN := hN.ext hx39
          replace hTr := hTr.ext hx39
          replace hT := hT.ext hx39
          replace hE := hE.step hx39 (.inl (Nat.le_refl _))
          replace hb3 := hb3.ext hx39
          replace hlp0 := hlp0.step hx39 (.inl (Nat.le_refl _))
          replace hlp1 := hlp1.step hx39 (.inl (Nat.le_refl _))
          refine st (asI rfl) ?_
          refine rg_end ?_
          refine n_then ?_
          refine wp_seq ?_
          refine wp_seq ?_
          refine rg ?_
          refine st (mvI rfl) ?_
          refine st (y_neq rfl rfl) ?_
          refine rg_end ?_
          refine n_then ?_
          refine cnd rfl (fun hc3 => ?_) (fun hc3 => ?_)
          ·
            try simp only [decide_eq_true_eq, decide_eq_false_iff_not, Bool.not_eq_true', Bool.not_eq_false', Bool.and_eq_true, Bool.or_eq_true, Bool.or_eq_false_iff, Bool.cond_true_right, Bool.cond_false_right, Bool.cond_true_left, Bool.cond_false_left, ne_eq, Decidable.not_not, bne_iff_ne, beq_iff_eq, beq_eq_false_iff_ne, Bool.not_true, Bool.not_false] at hc3
            have hbi1 := hbi
            refine wp_exit ?_
            refine e_then (e_blk (?_))
            refine n_then ?_
            refine rg ?_
            refine st (mvI rfl) ?_
            refine st (y_add rfl rfl (by omega)) ?_
            refine st (asI rfl) ?_
            refine rg_end ?_
            exact n_then ⟨(k + 1, _, _, _, _), _, rfl, same_lk rfl (same_h0), ⟨rfl, rfl, rfl, rfl, rfl, trivial⟩, ⟨hlp1, by omega, hbi1⟩, by first | omega | (dsimp only; omega)⟩
          ·
            try simp only [decide_eq_true_eq, decide_eq_false_iff_not, Bool.not_eq_true', Bool.not_eq_false', Bool.and_eq_true, Bool.or_eq_true, Bool.or_eq_false_iff, Bool.cond_true_right, Bool.cond_false_right, Bool.cond_true_left, Bool.cond_false_left, ne_eq, Decidable.not_not, bne_iff_ne, beq_iff_eq, beq_eq_false_iff_ne, Bool.not_true, Bool.not_false] at hc3
            refine wp_skip ?_
            refine n_then ?_
            refine wp_seq ?_
            refine rg ?_
            refine st (y_lbN hb3 agg26 rfl) ?_
            refine st (mvS rfl) ?_
            refine sc cl26 (ref11_Cost_ok N A _ _ Tn _ _ _ _ _ hN hTn) rfl ?_
            rintro v46 w42 ⟨cn, ecn, rfl, gcn, bcn, ho43⟩
            have hz47 := ho43.size
            replace hN := hN.ext ho43
            replace hTr := hTr.ext ho43
            replace hT := hT.ext ho43
            replace hE := hE.step ho43 (.inl (Nat.le_refl _))
            replace hb3 := hb3.ext ho43
            replace hlp0 := hlp0.step ho43 (.inl (Nat.le_refl _))
            replace hlp1 := hlp1.step ho43 (.inl (Nat.le_refl _))
            replace hF := hF.ext ho43
            replace hTn := hTn.ext ho43
            refine st (mvT rfl) ?_
            refine st (y_ext rfl rfl) ?_
            refine st (y_ext rfl rfl) ?_
            refine st (asI rfl) ?_
            refine st (asI rfl) ?_
            refine rg_end ?_
            refine n_then ?_
            refine wp_seq ?_
            refine rg ?_
            refine st (mvI rfl) ?_
            refine st (mvI rfl) ?_
            refine st (y_lss rfl rfl) ?_
            refine rg_end ?_
            refine n_then ?_
            refine cnd rfl (fun hc4 => ?_) (fun hc4 => ?_)
            ·
              try simp only [decide_eq_true_eq, decide_eq_false_iff_not, Bool.not_eq_true', Bool.not_eq_false', Bool.and_eq_true, Bool.or_eq_true, Bool.or_eq_false_iff, Bool.cond_true_right, Bool.cond_false_right, Bool.cond_true_left, Bool.cond_false_left, ne_eq, Decidable.not_not, bne_iff_ne, beq_iff_eq, beq_eq_false_iff_ne, Bool.not_true, Bool.not_false] at hc4
              have hbi1 : true = true → MvOk N tree t (el tree (i : Int)) (k : Int) ∧ 0 ≤ (k : Int) := fun _ => ⟨hmv.1 hc3, by omega⟩
              refine rgD 8 (fun w_ => Ext w42 w_) (fun i => false) mixed (by kernel_rfl) ?_
              intro w48 ho49 hs50
              refine ⟨ho49, ?_⟩
              have hx51 := ho49
              refine tn rfl (fun _ hG => mvI rfl) ?_
              refine tn rfl (fun _ hG => mvS rfl) ?_
              refine tn rfl (fun _ hG => mvI rfl) ?_
              refine tn rfl (fun _ hG => y_ix (hTr.ext hG) sl22 rfl (rfl) rfl (by omega) (by omega)) ?_
              refine tn rfl (fun _ hG => y_le (hTr.ext hG) na3 rfl (by omega) (by omega) rfl) ?_
              refine tn rfl (fun _ hG => mvI rfl) ?_
              refine tn rfl (fun _ hG => asI rfl) ?_
              refine tn rfl (fun _ hG => asI rfl) ?_
              refine t_end ?_
              have hz52 := hx51.size
              replace hN := hN.ext hx51
              replace hTr := hTr.ext hx51
              replace hT := hT.ext hx51
              replace hE := hE.step hx51 (.inl (Nat.le_refl _))
              replace hb3 := hb3.ext hx51
              replace hlp0 := hlp0.step hx51 (.inl (Nat.le_refl _))
              replace hlp1 := hlp1.step hx51 (.inl (Nat.le_refl _))
              replace hF := hF.ext hx51
              replace hTn := hTn.ext hx51
              refine st (asI rfl) ?_
              refine st (asB rfl) ?_
              refine rg_end ?_
              refine n_blk ?_
              refine n_then ?_
              refine rg ?_
              refine st (mvI rfl) ?_
              refine st (y_add rfl rfl (by omega)) ?_
              refine st (asI rfl) ?_
              refine rg_end ?_
              exact n_then ⟨(k + 1, _, _, _, _), _, rfl, same_lk rfl (same_h0), ⟨rfl, rfl, rfl, rfl, rfl, trivial⟩, ⟨hlp1, by omega, hbi1⟩, by first | omega | (dsimp only; omega)⟩
            ·
              try simp only [decide_eq_true_eq, decide_eq_false_iff_not, Bool.not_eq_true', Bool.not_eq_false', Bool.and_eq_true, Bool.or_eq_true, Bool.or_eq_false_iff, Bool.cond_true_right, Bool.cond_false_right, Bool.cond_true_left, Bool.cond_false_left, ne_eq, Decidable.not_not, bne_iff_ne, beq_iff_eq, beq_eq_false_iff_ne, Bool.not_true, Bool.not_false] at hc4
              have hbi1 := hbi
              refine wp_skip ?_
              refine n_blk ?_
              refine n_then ?_
              refine rg ?_
              refine st (mvI rfl) ?_
              refine st (y_add rfl rfl (by omega)) ?_
              refine st (asI rfl) ?_
              refine rg_end ?_
              exact n_then ⟨(k + 1, _, _, _, _), _, rfl, same_lk rfl (same_h0), ⟨rfl, rfl, rfl, rfl, rfl, trivial⟩, ⟨hlp1, by omega, hbi1⟩, by first | omega | (dsimp only; omega)⟩
        ·
          try simp only [decide_eq_true_eq, decide_eq_false_iff_not, Bool.not_eq_true', Bool.not_eq_false', Bool.and_eq_true, Bool.or_eq_true, Bool.or_eq_false_iff, Bool.cond_true_right, Bool.cond_false_right, Bool.cond_true_left, Bool.cond_false_left, ne_eq, Decidable.not_not, bne_iff_ne, beq_iff_eq, beq_eq_false_iff_ne, Bool.not_true, Bool.not_false] at hc2
          refine wp_exit ?_
          refine e_then (e_then (e_blk (?_)))
          refine n_blk ?_
          refine n_then ?_
          refine rg ?_
          refine st (mvI rfl) ?_
          refine st (y_add rfl rfl (by omega)) ?_
          refine st (asI rfl) ?_
          refine rg_end ?_
          exact n_then ⟨(i + 1, _, _, _, _), _, rfl, same_lk rfl (same_hav rfl (same_lk rfl (same_h0))), ⟨rfl, rfl, rfl, rfl, rfl, trivial⟩, ⟨hlp0, by omega, hbi⟩, by first | omega | (dsimp only; omega)⟩
      ·
        try simp only [decide_eq_true_eq, decide_eq_false_iff_not, Bool.not_eq_true', Bool.not_eq_false', Bool.and_eq_true, Bool.or_eq_true, Bool.or_eq_false_iff, Bool.cond_true_right, Bool.cond_false_right, Bool.cond_true_left, Bool.cond_false_left, ne_eq, Decidable.not_not, bne_iff_ne, beq_iff_eq, beq_eq_false_iff_ne, Bool.not_true, Bool.not_false] at hc1
        refine wp_exit ?_
        refine e_then (e_then (e_blk (?_)))
        refine n_then ?_
        refine wp_seq ?_
        refine rg ?_
        refine st (mvI rfl) ?_
        refine st (mvI rfl) ?_
        refine st (mvB rfl) ?_
        refine st (asI rfl) ?_
        refine st (asI rfl) ?_
        refine st (asB rfl) ?_
        refine st (asI rfl) ?_
        refine rg_end ?_
        refine n_then ?_
        refine wp_ret ?_
        refine ret4 (v := (.int .i64 _)) (v' := (.int .i64 _)) (v'' := (.bool _)) (v3 := (.int .i64 _)) Try.results55 rfl rfl rfl rfl ?_
        exact ⟨o, n_, ob, 0, rfl, hbi, hE⟩

set_option maxHeartbeats 2000000 in
set_option maxRecDepth 100000 in
theorem ref13_Simplex_ok (N : Net) (A : NetA) (lo hi : Nat) (tree : List Int) (ar : Option Addr) (cr lr hr_ : Nat) (t : List Int) (at_ : Option Addr) (ct : Nat) (lt ht : Nat) (B : Int) (w : World) (hN : NetIn lo hi w N A) (hTr : Ints lr hr_ w ar tree) (htn : (tree.length : Int) ≤ 1000000) (hT : Ints lt ht w at_ t) (hB : 0 ≤ B ∧ B ≤ 1048576) : Cal Try.prog 33 [netV N A, .slice ar tree.length cr, .slice at_ t.length ct, .int .i64 B] w (fun v w' => ∃ af cf, ∃ f : List Int, ∃ a1 c1, ∃ y : List Int, ∃ mv e, v = .tuple #[.slice af f.length cf, .slice a1 y.length c1, .int .i64 mv, .int .i64 e] ∧ Ints 0 w'.heap.size w' a1 y ∧ (FoOk N tree → feas N t = true → e = 0 ∧ feas N y = true) ∧ Ext w w') := by
  replace hN := hN.full
  replace hTr := Ints.full hTr
  replace hT := Ints.full hT
  have hE : Out 0 0 w w := Out.refl _ _ w
  refine enter Try.func33 rfl Try.ntmps33 rfl ?_
  refine wp_seq ?_
  refine rg ?_
  refine sd (d_boxA rfl ?_)
  intro b4 w1 hbb4 hs3 ho2 hb4
  have hz4 := ho2.size
  replace hN := hN.ext ho2
  replace hTr := hTr.ext ho2
  replace hT := hT.ext ho2
  replace hE := hE.step ho2 (.inl (Nat.le_refl _))
  refine st (asS rfl) ?_
  refine st (asS rfl) ?_
  refine st (asI rfl) ?_
  refine st (asI rfl) ?_
  refine rg_end ?_
  refine n_then ?_
  refine wp_seq ?_
  refine wp_seq ?_
  refine rg ?_
  refine st (y_lbN hb4 agg26 rfl) ?_
  refine st (mvS rfl) ?_
  refine sc cl47 (ref11_Forest_ok N A _ _ tree _ _ _ _ _ hN hTr (by omega)) rfl ?_
  rintro v9 w5 ⟨b, rfl, hb, ho6⟩
  have hz10 := ho6.size
  replace hN := hN.ext ho6
  replace hTr := hTr.ext ho6
  replace hT := hT.ext ho6
  replace hE := hE.step ho6 (.inl (Nat.le_refl _))
  replace hb4 := hb4.ext ho6
  refine st (y_not rfl) ?_
  refine st (mvB rfl) ?_
  refine gspL 21 rfl (fun hg11 => ?_) (fun hg11 => ?_)
  ·
    have hg11n := hg11; try simp only [decide_eq_true_eq, decide_eq_false_iff_not, Bool.not_eq_true', Bool.not_eq_false', Bool.and_eq_true, Bool.or_eq_true, Bool.or_eq_false_iff, Bool.cond_true_right, Bool.cond_false_right, Bool.cond_true_left, Bool.cond_false_left, ne_eq, Decidable.not_not, bne_iff_ne, beq_iff_eq, beq_eq_false_iff_ne, Bool.not_true, Bool.not_false] at hg11n
    refine sts rfl rfl hg11 ?_
    refine sts rfl rfl hg11 ?_
    refine sts rfl rfl hg11 ?_
    refine sts rfl rfl hg11 ?_
    refine st (y_pickT rfl hg11 (v := .bool _) rfl) ?_
    refine rg_end ?_
    refine n_then ?_
    refine cnd rfl (fun hc0 => ?_) (fun hc0 => absurd hc0 (by decide))
    have hno : FoOk N tree → feas N t = true → False := fun h1 h2 => by
      have h3 := hb.2 h1
      first
      | (rw [show b = false by assumption] at h3; cases h3)
      | (rw [show feas N t = false by assumption] at h2; cases h2)
    refine wp_seq ?_
    refine rg ?_
    refine st (asS rfl) ?_
    refine st (asS rfl) ?_
    refine st (asI rfl) ?_
    refine st (asI rfl) ?_
    refine rg_end ?_
    refine n_then ?_
    refine wp_ret ?_
    refine r_then (ret4 (v := (.slice _ _ _)) (v' := (.slice _ _ _)) (v'' := (.int .i64 _)) (v3 := (.int .i64 _)) Try.results33 rfl rfl rfl rfl ?_)
    exact ⟨none, 0, [], none, 0, [], 0, 1, rfl, ⟨fun h => absurd rfl h, fun i x hx => by simp at hx⟩, fun h1 h2 => absurd (hno h1 h2) not_false, hE⟩
  ·
    have hg11n := hg11; try simp only [decide_eq_true_eq, decide_eq_false_iff_not, Bool.not_eq_true', Bool.not_eq_false', Bool.and_eq_true, Bool.or_eq_true, Bool.or_eq_false_iff, Bool.cond_true_right, Bool.cond_false_right, Bool.cond_true_left, Bool.cond_false_left, ne_eq, Decidable.not_not, bne_iff_ne, beq_iff_eq, beq_eq_false_iff_ne, Bool.not_true, Bool.not_false] at hg11n
    refine stg rfl rfl hg11 (y_lbN hb4 agg26 rfl) ?_
    refine stg rfl rfl hg11 (mvS rfl) ?_
    refine scg rfl rfl hg11 cl25 (ref11_Feasible_ok N A _ _ t _ _ _ _ _ hN hT) rfl ?_
    rintro v16 w12 ⟨rfl, ho13⟩
    have hz17 := ho13.size
    replace hN := hN.ext ho13
    replace hTr := hTr.ext ho13
    replace hT := hT.ext ho13
    replace hE := hE.step ho13 (.inl (Nat.le_refl _))
    replace hb4 := hb4.ext ho13
    refine stg rfl rfl hg11 (y_not rfl) ?_
    refine st (y_pickF rfl hg11 (v := .bool _) rfl) ?_
    refine rg_end ?_
    refine n_then ?_
    refine cnd rfl (fun hc0 => ?_) (fun hc0 => ?_)
    ·
      try simp only [decide_eq_true_eq, decide_eq_false_iff_not, Bool.not_eq_true', Bool.not_eq_false', Bool.and_eq_true, Bool.or_eq_true, Bool.or_eq_false_iff, Bool.cond_true_right, Bool.cond_false_right, Bool.cond_true_left, Bool.cond_false_left, ne_eq, Decidable.not_not, bne_iff_ne, beq_iff_eq, beq_eq_false_iff_ne, Bool.not_true, Bool.not_false] at hc0
      have hno : FoOk N tree → feas N t = true → False := fun h1 h2 => by
        have h3 := hb.2 h1
        first
        | (rw [show b = false by assumption] at h3; cases h3)
        | (rw [show feas N t = false by assumption] at h2; cases h2)
      refine wp_seq ?_
      refine rg ?_
      refine st (asS rfl) ?_
      refine st (asS rfl) ?_
      refine st (asI rfl) ?_
      refine st (asI rfl) ?_
      refine rg_end ?_
      refine n_then ?_
      refine wp_ret ?_
      refine r_then (ret4 (v := (.slice _ _ _)) (v' := (.slice _ _ _)) (v'' := (.int .i64 _)) (v3 := (.int .i64 _)) Try.results33 rfl rfl rfl rfl ?_)
      exact ⟨none, 0, [], none, 0, [], 0, 1, rfl, ⟨fun h => absurd rfl h, fun i x hx => by simp at hx⟩, fun h1 h2 => absurd (hno h1 h2) not_false, hE⟩
    ·
      try simp only [decide_eq_true_eq, decide_eq_false_iff_not, Bool.not_eq_true', Bool.not_eq_false', Bool.and_eq_true, Bool.or_eq_true, Bool.or_eq_false_iff, Bool.cond_true_right, Bool.cond_false_right, Bool.cond_true_left, Bool.cond_false_left, ne_eq, Decidable.not_not, bne_iff_ne, beq_iff_eq, beq_eq_false_iff_ne, Bool.not_true, Bool.not_false] at hc0
      refine wp_skip ?_
      refine n_then ?_
      refine wp_seq ?_
      refine wp_seq ?_
      refine rg ?_
      refine st (mvI rfl) ?_
      refine sc cl54 (ref13_in_ok _ _ _ _) rfl ?_
      rintro v22 w18 ⟨rfl, ho19⟩
      have hz23 := ho19.size
      replace hN := hN.ext ho19
      replace hTr := hTr.ext ho19
      replace hT := hT.ext ho19
      replace hE := hE.step ho19 (.inl (Nat.le_refl _))
      replace hb4 := hb4.ext ho19
      refine st (y_not rfl) ?_
      refine rg_end ?_
      refine n_then ?_
      refine cnd rfl (fun hc1 => absurd ((congrArg Bool.not (decide_eq_true hB)).symm.trans hc1) (by decide)) (fun hc1 => ?_)
      refine wp_skip ?_
      refine n_then ?_
      refine wp_seq ?_
      refine rg ?_
      refine st (asI rfl) ?_
      refine rg_end ?_
      refine n_then ?_
      refine wp_seq ?_
      refine wp_block ?_
      refine lp (γ := Nat × List Int × List Int × Option Addr × Nat × Option Addr × Nat) [1, 2, 12, 13, 14, 15, 16, 30, 31, 32, 33, 34, 35, 36, 37, 38, 39, 40, 41, 42, 43, 44, 45, 46, 47, 48, 49, 50, 51, 52, 53, 54, 55] (fun ⟨mv, tree2, t2, ar2, cr2, at2, ct2⟩ => [(12, .int .i64 (mv : Int)), (1, .slice ar2 tree2.length cr2), (2, .slice at2 t2.length ct2)]) (fun ⟨mv, tree2, t2, ar2, cr2, at2, ct2⟩ w_ => Ext w18 w_ ∧ (mv : Int) ≤ B ∧ (tree2.length : Int) ≤ 1000000 ∧ feas N t2 = true ∧ Ints 0 w_.heap.size w_ ar2 tree2 ∧ Ints 0 w_.heap.size w_ at2 t2) (fun ⟨mv, tree2, t2, ar2, cr2, at2, ct2⟩ => B.toNat - mv) (0, tree, t, ar, cr, at_, ct) ⟨rfl, rfl, rfl, trivial⟩ ⟨Out.refl _ _ _, by omega, htn, hc0, Ints.full hTr, Ints.full hT⟩ ?_
      rintro ⟨mv, tree2, t2, ar2, cr2, at2, ct2⟩ hav_ w24 ⟨ho25, hmB, htn2, hft, hTr, hT⟩
      have hlp0 := ho25
      have hz26 := ho25.size
      replace hN := hN.ext ho25
      replace hE := hE.step ho25 (.inl (Nat.le_refl _))
      replace hb4 := hb4.ext ho25
      refine wp_seq ?_
      refine wp_seq ?_
      refine rg ?_
      refine st (mvI rfl) ?_
      refine st (mvI rfl) ?_
      refine st (y_lss rfl rfl) ?_
      refine rg_end ?_
      refine n_then ?_
      refine cnd rfl (fun hc2 => ?_) (fun hc2 => ?_)
      ·
        try simp only [decide_eq_true_eq, decide_eq_false_iff_not, Bool.not_eq_true', Bool.not_eq_false', Bool.and_eq_true, Bool.or_eq_true, Bool.or_eq_false_iff, Bool.cond_true_right, Bool.cond_false_right, Bool.cond_true_left, Bool.cond_false_left, ne_eq, Decidable.not_not, bne_iff_ne, beq_iff_eq, beq_eq_false_iff_ne, Bool.not_true, Bool.not_false] at hc2
        refine wp_skip ?_
        refine n_then ?_
        refine wp_block ?_
        refine wp_seq ?_
        refine rg ?_
        refine st (y_lbN hb4 agg26 rfl) ?_
        refine st (mvS rfl) ?_
        refine st (mvS rfl) ?_
        refine sc cl55 (ref13_Best_ok N A _ _ tree2 _ _ _ _ t2 _ _ _ _ _ hN hTr (by omega) hT) rfl ?_
        rintro v31 w27 ⟨o, n_, ob, e4, rfl, hq4, ho28⟩
        have hz32 := ho28.size
        replace hN := hN.ext ho28
        replace hE := hE.step ho28 (.inl (Nat.le_refl _))
        replace hb4 := hb4.ext ho28
        replace hTr := hTr.ext ho28
        replace hT := hT.ext ho28
        replace hlp0 := hlp0.step ho28 (.inl (Nat.le_refl _))
        refine st (mvT rfl) ?_
        refine st (y_ext rfl rfl) ?_
        refine st (y_ext rfl rfl) ?_
        refine st (y_ext rfl rfl) ?_
        refine st (y_ext rfl rfl) ?_
        refine st (asI rfl) ?_
        refine st (asI rfl) ?_
        refine st (asB rfl) ?_
        refine st (asI rfl) ?_
        refine rg_end ?_
        refine n_then ?_
        refine wp_seq ?_
        refine wp_seq ?_
        refine rg ?_
        refine st (mvB rfl) ?_
        refine st (y_not rfl) ?_
        refine rg_end ?_
        refine n_then ?_
        refine cnd rfl (fun hc3 => ?_) (fun hc3 => ?_)
        ·
          try simp only [decide_eq_true_eq, decide_eq_false_iff_not, Bool.not_eq_true', Bool.not_eq_false', Bool.and_eq_true, Bool.or_eq_true, Bool.or_eq_false_iff, Bool.cond_true_right, Bool.cond_false_right, Bool.cond_true_left, Bool.cond_false_left, ne_eq, Decidable.not_not, bne_iff_ne, beq_iff_eq, beq_eq_false_iff_ne, Bool.not_true, Bool.not_false] at hc3
          refine wp_exit ?_
          refine e_then (e_blk' rfl (e_then (e_blk (?_))))
          refine n_then ?_
          refine wp_seq ?_
          refine rg ?_
          refine st (mvS rfl) ?_
          refine st (mvS rfl) ?_
          refine st (mvI rfl) ?_
          refine st (asS rfl) ?_
          refine st (asS rfl) ?_
          refine st (asI rfl) ?_
          refine st (asI rfl) ?_
          refine rg_end ?_
          refine n_then ?_
          refine wp_ret ?_
          refine ret4 (v := (.slice _ _ _)) (v' := (.slice _ _ _)) (v'' := (.int .i64 _)) (v3 := (.int .i64 _)) Try.results33 rfl rfl rfl rfl ?_
          exact ⟨_, _, tree2, _, _, t2, _, 0, rfl, Ints.full hT, fun _ _ => ⟨rfl, hft⟩, hE⟩
        ·
          try simp only [decide_eq_true_eq, decide_eq_false_iff_not, Bool.not_eq_true', Bool.not_eq_false', Bool.and_eq_true, Bool.or_eq_true, Bool.or_eq_false_iff, Bool.cond_true_right, Bool.cond_false_right, Bool.cond_true_left, Bool.cond_false_left, ne_eq, Decidable.not_not, bne_iff_ne, beq_iff_eq, beq_eq_false_iff_ne, Bool.not_true, Bool.not_false] at hc3
          obtain ⟨hmo, hn0⟩ := hq4 hc3
          refine wp_skip ?_
          refine n_then ?_
          refine wp_seq ?_
          refine rg ?_
          refine st (y_lbN hb4 agg26 rfl) ?_
          refine st (mvS rfl) ?_
          refine st (mvS rfl) ?_
          refine st (mvI rfl) ?_
          refine st (mvI rfl) ?_
          refine sc cl56 (ref13_Move_ok N A _ _ tree2 _ _ _ _ t2 _ _ _ _ o n_ _ hN hTr (by omega) hT hn0) rfl ?_
          rintro v37 w33 ⟨af, cf, f, a1, c1, Tn, e, rfl, hF, hTn, hfl, hmv, hfe, ho34⟩
          have he0 := hmv.2 hmo
          have hf2 := hfe he0
          have hz38 := ho34.size
          replace hN := hN.ext ho34
          replace hE := hE.step ho34 (.inl (Nat.le_refl _))
          replace hb4 := hb4.ext ho34
          replace hTr := hTr.ext ho34
          replace hT := hT.ext ho34
          replace hlp0 := hlp0.step ho34 (.inl (Nat.le_refl _))
          refine st (mvT rfl) ?_
          refine st (y_ext rfl rfl) ?_
          refine st (y_ext rfl rfl) ?_
          refine st (y_ext rfl rfl) ?_
          refine st (asS rfl) ?_
          refine st (asS rfl) ?_
          refine rg_end ?_
          refine n_then ?_
          refine rg ?_
          refine st (mvI rfl) ?_
          refine st (y_add rfl rfl (by omega)) ?_
          refine st (asI rfl) ?_
          refine rg_end ?_
          refine n_blk ?_
          exact n_then ⟨(mv + 1, f, Tn, af, cf, a1, c1), _, rfl, same_lk rfl (same_h0), ⟨rfl, rfl, rfl, trivial⟩, ⟨hlp0, by omega, by omega, hf2, Ints.full hF, Ints.full hTn⟩, by first | omega | (dsimp only; omega)⟩
      ·
        try simp only [decide_eq_true_eq, decide_eq_false_iff_not, Bool.not_eq_true', Bool.not_eq_false', Bool.and_eq_true, Bool.or_eq_true, Bool.or_eq_false_iff, Bool.cond_true_right, Bool.cond_false_right, Bool.cond_true_left, Bool.cond_false_left, ne_eq, Decidable.not_not, bne_iff_ne, beq_iff_eq, beq_eq_false_iff_ne, Bool.not_true, Bool.not_false] at hc2
        refine wp_exit ?_
        refine e_then (e_then (e_blk (?_)))
        refine n_then ?_
        refine wp_seq ?_
        refine rg ?_
        refine st (mvS rfl) ?_
        refine st (mvS rfl) ?_
        refine st (mvI rfl) ?_
        refine st (asS rfl) ?_
        refine st (asS rfl) ?_
        refine st (asI rfl) ?_
        refine st (asI rfl) ?_
        refine rg_end ?_
        refine n_then ?_
        refine wp_ret ?_
        refine ret4 (v := (.slice _ _ _)) (v' := (.slice _ _ _)) (v'' := (.int .i64 _)) (v3 := (.int .i64 _)) Try.results33 rfl rfl rfl rfl ?_
        exact ⟨_, _, tree2, _, _, t2, _, 0, rfl, Ints.full hT, fun _ _ => ⟨rfl, hft⟩, hE⟩

set_option maxHeartbeats 1000000 in
set_option maxRecDepth 100000 in
theorem law17_SearchBeatsSimplex_ok (a0 : Option Addr) (c0 : Nat) (l0 : List Int) (w : World) (hL0 : Ints 0 w.heap.size w a0 l0) (hl0 : (l0.length : Int) ≤ 9223372036854775807) : Cal Try.prog 11 [.slice a0 l0.length c0] w (fun v w' => v = .bool true ∧ Ext w w') := by
  have hE : Out 0 0 w w := Out.refl _ _ w
  refine enter Try.func11 rfl Try.ntmps11 rfl ?_
  refine wp_seq ?_
  refine rg ?_
  refine st (asB rfl) ?_
  refine rg_end ?_
  refine n_then ?_
  refine wp_seq ?_
  refine rg ?_
  refine st (mvS rfl) ?_
  refine sc cl23 (keep_Slack_ok _ _ _ _ _ _ hL0 hl0) rfl ?_
  rintro v5 w1 ⟨N, A, rfl, hsm, hN, ho2⟩
  have hok := hsm.1
  have hse := small_err hsm false
  have hso := (small_same hsm).1
  have hz6 := ho2.size
  replace hL0 := hL0.ext ho2
  replace hE := hE.step ho2 (.inl (Nat.le_refl _))
  refine sd (d_allocA zer26 ?_)
  intro b3 w7 hbb3 hs9 ho8 hb3
  have hz10 := ho8.size
  replace hL0 := hL0.ext ho8
  replace hE := hE.step ho8 (.inl (Nat.le_refl _))
  replace hN := hN.ext ho8
  refine sd0 (d_stN hb3 rfl rfl sz26 rfl rfl ?_)
  intro w11 hs13 ho12 hb3'
  clear hb3; have hb3 := hb3'; clear hb3'
  have hz14 := ho12.size
  replace hL0 := hL0.out ho12 (by first | omega | (simp only [blk_some, hi1_some] at *; omega))
  replace hE := hE.step ho12 (by first | omega | (simp only [blk_some, hi1_some] at *; omega))
  replace hN := hN.out ho12 (by first | omega | (simp only [blk_some, hi1_some] at *; omega))
  refine rg_end ?_
  refine n_then ?_
  refine wp_seq ?_
  refine rg ?_
  refine st (y_lbN hb3 agg26 rfl) ?_
  refine sc cl13 (search_Feasible_ok N A _ _ 1048576 _ hN) rfl ?_
  rintro v19 w15 ⟨at1, ct1, rfl, hT1, ho16⟩
  have hz20 := ho16.size
  replace hL0 := hL0.ext ho16
  replace hE := hE.step ho16 (.inl (Nat.le_refl _))
  replace hN := hN.ext ho16
  replace hb3 := hb3.ext ho16
  refine st (mvT rfl) ?_
  refine st (y_ext rfl rfl) ?_
  refine st (y_ext rfl rfl) ?_
  refine st (y_ext rfl rfl) ?_
  refine st (asS rfl) ?_
  refine st (asI rfl) ?_
  refine st (asI rfl) ?_
  refine rg_end ?_
  refine n_then ?_
  refine wp_seq ?_
  refine wp_seq ?_
  refine rg ?_
  refine st (mvI rfl) ?_
  refine st (y_neq rfl rfl) ?_
  refine rg_end ?_
  refine n_then ?_
  refine cnd rfl (fun hc0 => ?_) (fun hc0 => ?_)
  ·
    try simp only [decide_eq_true_eq, decide_eq_false_iff_not, Bool.not_eq_true', Bool.not_eq_false', Bool.and_eq_true, Bool.or_eq_true, Bool.or_eq_false_iff, Bool.cond_true_right, Bool.cond_false_right, Bool.cond_true_left, Bool.cond_false_left, ne_eq, Decidable.not_not, bne_iff_ne, beq_iff_eq, beq_eq_false_iff_ne, Bool.not_true, Bool.not_false] at hc0
    have h14 : findE N false 1048576 = 14 := by omega
    refine wp_seq ?_
    refine rg ?_
    refine sc cl15 (law17_awake_ok _) rfl ?_
    rintro v25 w21 ⟨rfl, ho22⟩
    have hz26 := ho22.size
    replace hL0 := hL0.ext ho22
    replace hE := hE.step ho22 (.inl (Nat.le_refl _))
    replace hN := hN.ext ho22
    replace hb3 := hb3.ext ho22
    replace hT1 := hT1.ext ho22
    refine st (mvB rfl) ?_
    refine stg rfl rfl rfl (mvI rfl) ?_
    refine stg rfl rfl rfl (y_eql rfl rfl) ?_
    refine st (y_pickT rfl rfl (v := .bool _) rfl) ?_
    refine st (asB rfl) ?_
    refine rg_end ?_
    refine n_then ?_
    refine wp_ret ?_
    refine r_then (ret1 (v := (.bool _)) Try.results11 rfl ?_)
    exact ⟨congrArg Value.bool (decide_eq_true h14), hE⟩
  ·
    try simp only [decide_eq_true_eq, decide_eq_false_iff_not, Bool.not_eq_true', Bool.not_eq_false', Bool.and_eq_true, Bool.or_eq_true, Bool.or_eq_false_iff, Bool.cond_true_right, Bool.cond_false_right, Bool.cond_true_left, Bool.cond_false_left, ne_eq, Decidable.not_not, bne_iff_ne, beq_iff_eq, beq_eq_false_iff_ne, Bool.not_true, Bool.not_false] at hc0
    have hfe := small_fea hsm hc0
    refine wp_skip ?_
    refine n_then ?_
    refine wp_seq ?_
    refine rgD 13 (fun w_ => Ext w15 w_) (fun i => Nat.beq i 2 || Nat.beq i 4) mixed (by kernel_rfl) ?_
    intro w27 ho28 hs29
    refine ⟨ho28, ?_⟩
    have hx30 := ho28
    refine tn rfl (fun _ hG => y_lbN (hb3.ext hG) agg26 rfl) ?_
    refine tn rfl (fun _ hG => y_lbN (hb3.ext hG) agg26 rfl) ?_
    refine tc rfl cl31 (ref11_TreeF_ok N A _ _ _ (hN.ext hx30) hok) rfl ?_
    rintro v35 w31 ⟨ar, cr, tree, rfl, hTr, hfo, htl, hcap, ho32⟩
    have hx36 := hx30.step ho32 (.inl (Nat.le_refl _))
    have hz37 := ho32.size
    refine ⟨hx36, ?_⟩
    refine tn rfl (fun _ hG => mvS rfl) ?_
    refine tc rfl cl33 (ref13_Simplex_ok N A _ _ tree _ _ _ _ (findT N false 1048576) _ _ _ _ 50 _ (hN.ext hx36) hTr (by omega) (hT1.ext hx36) (by omega)) rfl ?_
    rintro v42 w38 ⟨af, cf, f, a1, c1, y, mv, e5, rfl, hY, hsx, ho39⟩
    obtain ⟨rfl, hfy⟩ := hsx hfo hfe
    have hx43 := hx36.step ho39 (.inl (Nat.le_refl _))
    have hz44 := ho39.size
    replace hTr := hTr.ext ho39
    refine ⟨hx43, ?_⟩
    refine tn rfl (fun _ hG => mvT rfl) ?_
    refine tn rfl (fun _ hG => y_ext rfl rfl) ?_
    refine tn rfl (fun _ hG => y_ext rfl rfl) ?_
    refine tn rfl (fun _ hG => y_ext rfl rfl) ?_
    refine tn rfl (fun _ hG => y_ext rfl rfl) ?_
    refine tn rfl (fun _ hG => asS rfl) ?_
    refine tn rfl (fun _ hG => asS rfl) ?_
    refine tn rfl (fun _ hG => asI rfl) ?_
    refine t_end ?_
    have hz45 := hx43.size
    replace hL0 := hL0.ext hx43
    replace hE := hE.step hx43 (.inl (Nat.le_refl _))
    replace hN := hN.ext hx43
    replace hb3 := hb3.ext hx43
    replace hT1 := hT1.ext hx43
    refine st (asI rfl) ?_
    refine rg_end ?_
    refine n_then ?_
    refine wp_seq ?_
    refine rg ?_
    refine st (y_lbN hb3 agg26 rfl) ?_
    refine sc cl18 (search_Solve_ok N A _ _ 1048576 _ hN) rfl ?_
    rintro v50 w46 ⟨at2, ct2, rfl, hT2, ho47⟩
    have hz51 := ho47.size
    replace hL0 := hL0.ext ho47
    replace hE := hE.step ho47 (.inl (Nat.le_refl _))
    replace hN := hN.ext ho47
    replace hb3 := hb3.ext ho47
    replace hT1 := hT1.ext ho47
    replace hTr := hTr.ext ho47
    replace hY := hY.ext ho47
    refine st (mvT rfl) ?_
    refine st (y_ext rfl rfl) ?_
    refine st (y_ext rfl rfl) ?_
    refine st (y_ext rfl rfl) ?_
    refine st (y_ext rfl rfl) ?_
    refine st (asS rfl) ?_
    refine st (asI rfl) ?_
    refine st (asI rfl) ?_
    refine st (asI rfl) ?_
    refine rg_end ?_
    refine n_then ?_
    refine wp_seq ?_
    refine rg ?_
    refine st (y_lbN hb3 agg26 rfl) ?_
    refine st (mvS rfl) ?_
    refine sc cl26 (ref11_Cost_ok N A _ _ y _ _ _ _ _ hN hY) rfl ?_
    rintro v56 w52 ⟨k, ek, rfl, gk, bk, ho53⟩
    have hk : k = costN N y := (gk (goodT_iff.2 (feas_iff.1 hfy).1)).1.trans (cost_all hok)
    have hop := small_opt hsm y
    have hz57 := ho53.size
    replace hL0 := hL0.ext ho53
    replace hE := hE.step ho53 (.inl (Nat.le_refl _))
    replace hN := hN.ext ho53
    replace hb3 := hb3.ext ho53
    replace hT1 := hT1.ext ho53
    replace hTr := hTr.ext ho53
    replace hY := hY.ext ho53
    replace hT2 := hT2.ext ho53
    refine st (mvT rfl) ?_
    refine st (y_ext rfl rfl) ?_
    refine st (y_ext rfl rfl) ?_
    refine st (asI rfl) ?_
    refine st (asI rfl) ?_
    refine rg_end ?_
    refine n_then ?_
    refine wp_seq ?_
    refine rg ?_
    refine sc cl15 (law17_awake_ok _) rfl ?_
    rintro v62 w58 ⟨rfl, ho59⟩
    have hz63 := ho59.size
    replace hL0 := hL0.ext ho59
    replace hE := hE.step ho59 (.inl (Nat.le_refl _))
    replace hN := hN.ext ho59
    replace hb3 := hb3.ext ho59
    replace hT1 := hT1.ext ho59
    replace hTr := hTr.ext ho59
    replace hY := hY.ext ho59
    replace hT2 := hT2.ext ho59
    refine st (mvB rfl) ?_
    refine stg rfl rfl rfl (mvI rfl) ?_
    refine stg rfl rfl rfl (y_eql rfl rfl) ?_
    refine st (y_pickT rfl rfl (v := .bool _) rfl) ?_
    refine st (mvB rfl) ?_
    refine stg rfl rfl (decide_eq_true rfl) (mvI rfl) ?_
    refine stg rfl rfl (decide_eq_true rfl) (y_eql rfl rfl) ?_
    refine st (y_pickT rfl (decide_eq_true rfl) (v := .bool _) rfl) ?_
    refine st (mvB rfl) ?_
    refine stg rfl rfl (decide_eq_true (hso.trans hc0)) (mvI rfl) ?_
    refine stg rfl rfl (decide_eq_true (hso.trans hc0)) (mvI rfl) ?_
    refine stg rfl rfl (decide_eq_true (hso.trans hc0)) (y_geq rfl rfl) ?_
    refine st (y_pickT rfl (decide_eq_true (hso.trans hc0)) (v := .bool _) rfl) ?_
    refine st (asB rfl) ?_
    refine rg_end ?_
    refine n_then ?_
    refine wp_ret ?_
    refine ret1 (v := (.bool _)) Try.results11 rfl ?_
    exact ⟨congrArg Value.bool (decide_eq_true (by
      rcases hop with h | h
      · rw [hfy] at h; exact absurd h.2 (by decide)
      · have := h.2.2.2 hfy; omega)), hE⟩
end Go.Proofs.Ytdbiapbdmmkfjaa
