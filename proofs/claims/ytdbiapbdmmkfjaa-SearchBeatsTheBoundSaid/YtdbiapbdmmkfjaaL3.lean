/-
  Walks of the functions, printed by a program out of the code and the loops' relations.
-/
import Derived.Test.YtdbiapbdmmkfjaaWkD
import Derived.Test.YtdbiapbdmmkfjaaProg
import Derived.KernelRfl
import Derived.Test.YtdbiapbdmmkfjaaL2
namespace Go.Proofs.Ytdbiapbdmmkfjaa
open Go.Wk Go.RowKit
set_option linter.unusedVariables false
set_option linter.unusedSimpArgs false
theorem base_rng {N : Net} (hN : NetOk N) (k : Nat) : -(68719476736 * 512) ≤ sumC (fun a => a.wt * a.mn) (N.acts.take k) ∧ sumC (fun a => a.wt * a.mn) (N.acts.take k) ≤ 68719476736 * 512 := by
  have h := sumC_bound (f := fun a => a.wt * a.mn) (B := 68719476736) (N.acts.take k) (fun a ha => by
    have ok := hN.acs a (List.mem_of_mem_take ha)
    have hp := prodB ok.w0 ok.w1 (b := a.mn) (B := 65536) ok.m0 (by have := ok.m1; have := ok.m2; omega)
    omega)
  have hl : ((N.acts.take k).length : Int) ≤ 512 := by
    have := hN.ac
    rw [List.length_take]; omega
  omega

set_option maxHeartbeats 1000000 in
set_option maxRecDepth 100000 in
theorem ref13_Base_ok (N : Net) (A : NetA) (lo hi : Nat) (w : World) (hN : NetIn lo hi w N A) (hok : NetOk N) : Cal Try.prog 51 [netV N A] w (fun v w' => v = .tuple #[.int .i64 (sumC (fun a => a.wt * a.mn) N.acts), .int .i64 0] ∧ Ext w w') := by
  replace hN := hN.full
  have hac := hok.ac
  have hE : Out 0 0 w w := Out.refl _ _ w
  refine enter Try.func51 rfl Try.ntmps51 rfl ?_
  refine wp_seq ?_
  refine rg ?_
  refine sd (d_boxA rfl ?_)
  intro b1 w1 hbb1 hs3 ho2 hb1
  have hz4 := ho2.size
  replace hN := hN.ext ho2
  replace hE := hE.step ho2 (.inl (Nat.le_refl _))
  refine st (asI rfl) ?_
  refine st (asI rfl) ?_
  refine rg_end ?_
  refine n_then ?_
  refine wp_seq ?_
  refine wp_seq ?_
  refine rg ?_
  refine st (y_lbN hb1 agg26 rfl) ?_
  refine sc cl37 (ref11_Check_ok N A _ _ _ hN) rfl ?_
  rintro v9 w5 ⟨rfl, ho6⟩
  have hz10 := ho6.size
  replace hN := hN.ext ho6
  replace hE := hE.step ho6 (.inl (Nat.le_refl _))
  replace hb1 := hb1.ext ho6
  refine st (y_not rfl) ?_
  refine rg_end ?_
  refine n_then ?_
  refine cnd rfl (fun hc0 => absurd ((congrArg Bool.not (netOk_iff.2 hok)).symm.trans hc0) (by decide)) (fun hc0 => ?_)
  refine wp_skip ?_
  refine n_then ?_
  refine wp_seq ?_
  refine rg ?_
  refine st (asI rfl) ?_
  refine rg_end ?_
  refine n_then ?_
  refine wp_seq ?_
  refine wp_seq ?_
  refine rg ?_
  refine st (asI rfl) ?_
  refine rg_end ?_
  refine n_then ?_
  refine wp_block ?_
  refine lp (γ := Nat) [4, 5, 9, 10, 11, 12, 13, 14, 15, 16, 17, 18, 19, 20, 21, 22, 23, 24, 25, 26, 27, 28, 29, 30] (fun k => [(5, .int .i64 (k : Int)), (4, .int .i64 (sumC (fun a => a.wt * a.mn) (N.acts.take k)))]) (fun k w_ => Ext w5 w_ ∧ (k : Int) ≤ N.acts.length) (fun k => N.acts.length - k) 0 ⟨rfl, rfl, trivial⟩ ⟨Out.refl _ _ _, by omega⟩ ?_
  rintro k hav_ w11 ⟨ho12, hk_⟩
  have hlp0 := ho12
  have hz13 := ho12.size
  replace hN := hN.ext ho12
  replace hE := hE.step ho12 (.inl (Nat.le_refl _))
  replace hb1 := hb1.ext ho12
  refine wp_seq ?_
  refine wp_seq ?_
  refine rg ?_
  refine st (mvI rfl) ?_
  refine st (y_fld fld26_2 rfl) ?_
  refine st (y_lb hb1 na24 rfl rfl) ?_
  refine st (y_len Try.underlying24 rfl) ?_
  refine st (y_lss rfl rfl) ?_
  refine rg_end ?_
  refine n_then ?_
  refine cnd rfl (fun hc1 => ?_) (fun hc1 => ?_)
  ·
    try simp only [decide_eq_true_eq, decide_eq_false_iff_not, Bool.not_eq_true', Bool.not_eq_false', Bool.and_eq_true, Bool.or_eq_true, Bool.or_eq_false_iff, Bool.cond_true_right, Bool.cond_false_right, Bool.cond_true_left, Bool.cond_false_left, ne_eq, Decidable.not_not, bne_iff_ne, beq_iff_eq, beq_eq_false_iff_ne, Bool.not_true, Bool.not_false] at hc1
    have ok := hok.acs _ (el_mem (l := N.acts) (i := (k : Int)) (by omega) hc1)
    have hpr := prodB ok.w0 ok.w1 (b := (el N.acts (k : Int)).mn) (B := 65536) ok.m0 (by have := ok.m1; have := ok.m2; omega)
    have hr0 := base_rng hok k
    have hst : sumC (fun a => a.wt * a.mn) (N.acts.take (k + 1)) = sumC (fun a => a.wt * a.mn) (N.acts.take k) + (el N.acts (k : Int)).wt * (el N.acts (k : Int)).mn := by rw [tkS hc1, sumC_snoc]
    refine wp_skip ?_
    refine n_then ?_
    refine wp_seq ?_
    refine wp_block ?_
    refine rgD 14 (fun w_ => Ext w11 w_) (fun i => false) mixed (by kernel_rfl) ?_
    intro w14 ho15 hs16
    refine ⟨ho15, ?_⟩
    have hx17 := ho15
    refine tn rfl (fun _ hG => mvI rfl) ?_
    refine tn rfl (fun _ hG => y_fld fld26_2 rfl) ?_
    refine tn rfl (fun _ hG => y_lb (hb1.ext hG) na24 rfl rfl) ?_
    refine tn rfl (fun _ hG => mvI rfl) ?_
    refine tn rfl (fun _ hG => y_ix (hN.a.ext hG) sl24 rfl (rfl) rfl (by omega) (by omega)) ?_
    refine tn rfl (fun _ hG => y_fld fld62_5 rfl) ?_
    refine tn rfl (fun _ hG => y_lf (hN.a.ext hG) na3 rfl (by omega) (by omega) rfl) ?_
    refine tn rfl (fun _ hG => y_fld fld26_2 rfl) ?_
    refine tn rfl (fun _ hG => y_lb (hb1.ext hG) na24 rfl rfl) ?_
    refine tn rfl (fun _ hG => mvI rfl) ?_
    refine tn rfl (fun _ hG => y_ix (hN.a.ext hG) sl24 rfl (rfl) rfl (by omega) (by omega)) ?_
    refine tn rfl (fun _ hG => y_fld fld62_3 rfl) ?_
    refine tn rfl (fun _ hG => y_lf (hN.a.ext hG) na3 rfl (by omega) (by omega) rfl) ?_
    refine tn rfl (fun _ hG => y_mul rfl rfl (by omega)) ?_
    refine t_end ?_
    have hz18 := hx17.size
    replace hN := hN.ext hx17
    replace hE := hE.step hx17 (.inl (Nat.le_refl _))
    replace hb1 := hb1.ext hx17
    replace hlp0 := hlp0.step hx17 (.inl (Nat.le_refl _))
    refine st (y_add rfl rfl (by omega)) ?_
    refine st (asI rfl) ?_
    refine rg_end ?_
    refine n_blk ?_
    refine n_then ?_
    refine rg ?_
    refine st (mvI rfl) ?_
    refine st (y_add rfl rfl (by omega)) ?_
    refine st (asI rfl) ?_
    refine rg_end ?_
    exact n_then ⟨k + 1, _, rfl, same_lk rfl (same_h0), ⟨rfl, vi hst.symm, trivial⟩, ⟨hlp0, by omega⟩, by first | omega | (dsimp only; omega)⟩
  ·
    try simp only [decide_eq_true_eq, decide_eq_false_iff_not, Bool.not_eq_true', Bool.not_eq_false', Bool.and_eq_true, Bool.or_eq_true, Bool.or_eq_false_iff, Bool.cond_true_right, Bool.cond_false_right, Bool.cond_true_left, Bool.cond_false_left, ne_eq, Decidable.not_not, bne_iff_ne, beq_iff_eq, beq_eq_false_iff_ne, Bool.not_true, Bool.not_false] at hc1
    have hfull : N.acts.take k = N.acts := List.take_of_length_le (by omega)
    refine wp_exit ?_
    refine e_then (e_then (e_blk (?_)))
    refine n_then ?_
    refine wp_seq ?_
    refine rg ?_
    refine st (mvI rfl) ?_
    refine st (asI rfl) ?_
    refine st (asI rfl) ?_
    refine rg_end ?_
    refine n_then ?_
    refine wp_ret ?_
    refine ret2 (v := (.int .i64 _)) (v' := (.int .i64 _)) Try.results51 rfl rfl ?_
    exact ⟨by rw [hfull], hE⟩
end Go.Proofs.Ytdbiapbdmmkfjaa
