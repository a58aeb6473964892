/-
  Walks of the functions, printed by a program out of the code and the loops' relations.
-/
import Derived.Test.YtdbiapbdmmkfjaaWkH
import Derived.Test.YtdbiapbdmmkfjaaProg
import Derived.KernelRfl
import Derived.Test.YtdbiapbdmmkfjaaE8
namespace Go.Proofs.Ytdbiapbdmmkfjaa
open Go.Wk Go.RowKit
set_option linter.unusedVariables false
set_option linter.unusedSimpArgs false
def ResIn (L : Nat) (s : Sr) : Prop := s.res.length ≤ L ∧ s.t.length = L
theorem lpS_res {f : Int → Sr → Bool × Sr} {L : Nat} (hf : ∀ x s, ResIn L s → ResIn L (f x s).2) : ∀ (c : Nat) (x : Int) (s : Sr), ResIn L s → ResIn L (lpS f c x s).2
  | 0, x, s, h => h
  | c + 1, x, s, h => by
    have h1 := hf x s h
    unfold lpS
    generalize f x s = r at h1
    obtain ⟨b, s'⟩ := r
    cases b with
    | true => exact lpS_res hf c (x + 1) s' h1
    | false => exact h1
theorem srch_res {N : Net} {all : Bool} {B : Int} {L : Nat} : ∀ (m i : Nat) (s : Sr), ResIn L s → ResIn L (srch N all B m i s).2
  | 0, i, s, h => ⟨by show s.t.length ≤ L; rw [h.2]; exact Nat.le_refl _, h.2⟩
  | m + 1, i, s, h => by
    unfold srch
    refine lpS_res (fun x s h => ?_) _ _ _ h
    have h1 : ResIn L (stepS i x s) := ⟨h.1, by show (s.t.set i x).length = L; rw [List.length_set]; exact h.2⟩
    unfold bodyS
    by_cases q : s.used = B
    · rw [if_pos q]; exact h
    · rw [if_neg q]
      by_cases q2 : skipS N all (stepS i x s) i = true
      · rw [if_pos q2]; exact h1
      · rw [if_neg q2]; exact srch_res m (i + 1) _ h1
theorem findT_len {N : Net} {all : Bool} {B : Int} : ((findT N all B).length : Int) ≤ 48 := by
  unfold findT
  by_cases h : findE N all B = 0
  · rw [if_pos h]
    have hn : netOk N = true := by
      unfold findE at h
      by_cases q : netOk N = true
      · exact q
      · rw [if_neg q] at h; cases h
    have h1 := (srch_res (N := N) (all := all) (B := B) (L := N.evs.length) N.evs.length 0 (start0 N.evs.length) ⟨by simp [start0], by simp [start0]⟩).1
    have h2 := (netOk_iff.1 hn).ev
    unfold findS
    omega
  · rw [if_neg h]; simp

set_option maxRecDepth 100000 in
theorem ref17_Solve_ok (N : Net) (A : NetA) (lo hi : Nat) (B : Int) (w : World) (hN : NetIn lo hi w N A)  : Cal Try.prog 42 [netV N A, .int .i64 B] w (fun v w' => ∃ at_ ct, v = .tuple #[.slice at_ (findT N true B).length ct, .int .i64 (findC N true B), .int .i64 (findU N true B), .int .i64 (findE N true B)] ∧ Ints w.heap.size w'.heap.size w' at_ (findT N true B) ∧ Ext w w') := by
  replace hN := hN.full
  have hE : Out 0 0 w w := Out.refl _ _ w
  refine enter Try.func42 rfl Try.ntmps42 rfl ?_
  refine wp_seq ?_
  refine rg ?_
  refine sd (d_boxA rfl ?_)
  intro b2 w1 hbb2 hs3 ho2 hb2
  have hz4 := ho2.size
  replace hN := hN.ext ho2
  replace hE := hE.step ho2 (.inl (Nat.le_refl _))
  refine st (asS rfl) ?_
  refine st (asI rfl) ?_
  refine st (asI rfl) ?_
  refine st (asI rfl) ?_
  refine rg_end ?_
  refine n_then ?_
  refine wp_seq ?_
  refine rg ?_
  refine st (y_lbN hb2 agg26 rfl) ?_
  refine st (mvI rfl) ?_
  refine sc cl46 (ref17_run_ok N A _ _ B true _ hN) rfl ?_
  rintro v9 w5 ⟨p, e, rfl, he, hp, ho6⟩
  have hz10 := ho6.size
  replace hN := hN.ext ho6
  replace hE := hE.step ho6 (.inl (Nat.le_refl _))
  replace hb2 := hb2.ext ho6
  refine st (mvT rfl) ?_
  refine st (y_ext rfl rfl) ?_
  refine st (y_ext rfl rfl) ?_
  refine st (asP rfl) ?_
  refine st (asI rfl) ?_
  refine rg_end ?_
  refine n_then ?_
  refine wp_seq ?_
  refine wp_seq ?_
  refine rg ?_
  refine st (mvI rfl) ?_
  refine rg_end ?_
  refine n_then ?_
  refine wp_block ?_
  refine wp_seq ?_
  refine rg ?_
  refine st (y_eql rfl rfl) ?_
  refine st (asB rfl) ?_
  refine rg_end ?_
  refine n_then ?_
  refine cnd rfl (fun hc0 => ?_) (fun hc0 => ?_)
  ·
    try simp only [decide_eq_true_eq, decide_eq_false_iff_not, Bool.not_eq_true', Bool.not_eq_false', Bool.and_eq_true, Bool.or_eq_true, Bool.or_eq_false_iff, Bool.cond_true_right, Bool.cond_false_right, Bool.cond_true_left, Bool.cond_false_left, ne_eq, Decidable.not_not, bne_iff_ne, beq_iff_eq, beq_eq_false_iff_ne, Bool.not_true, Bool.not_false] at hc0
    obtain ⟨z, bs, rfl, hz0, hM⟩ := hp (.inl hc0)
    obtain ⟨bt, bf, ar, cr, Fl, hbs, hF, hFl, hFv, hT, hsi, hres, d1, d2, d3, d4, d5, d6⟩ := hM.ex
    obtain ⟨g1, g2, g3⟩ := find0 (he.symm.trans hc0)
    obtain ⟨_, _, hfe⟩ := fE_ok (N := N) (all := true) (B := B) (by apply Classical.byContradiction; intro h; have := (fE_err (all := true) h).1; rw [← he, hc0] at this; exact h this.symm)
    have hus := usedR_no (rE_over (.inl (hfe.symm.trans (he.symm.trans hc0))))
    refine wp_seq ?_
    refine rgD 14 (fun w_ => Ext w5 w_) (fun i => false) mixed (by kernel_rfl) ?_
    intro w11 ho12 hs13
    refine ⟨ho12, ?_⟩
    have hx14 := ho12
    refine tn rfl (fun _ hG => mvP rfl) ?_
    refine tn rfl (fun _ hG => y_nil rfl) ?_
    refine tn rfl (fun _ hG => y_fld fld79_8 rfl) ?_
    refine tn rfl (fun _ hG => y_lb (hbs.ext hG) na22 rfl rfl) ?_
    refine tn rfl (fun _ hG => mvP rfl) ?_
    refine tn rfl (fun _ hG => y_nil rfl) ?_
    refine tn rfl (fun _ hG => y_fld fld79_7 rfl) ?_
    refine tn rfl (fun _ hG => y_lb (hbs.ext hG) na3 rfl rfl) ?_
    refine tn rfl (fun _ hG => mvP rfl) ?_
    refine tn rfl (fun _ hG => y_nil rfl) ?_
    refine tn rfl (fun _ hG => y_fld fld79_3 rfl) ?_
    refine tn rfl (fun _ hG => y_lb (hbs.ext hG) na3 rfl rfl) ?_
    refine tn rfl (fun _ hG => asS rfl) ?_
    refine tn rfl (fun _ hG => asI rfl) ?_
    refine t_end ?_
    have hz15 := hx14.size
    replace hN := hN.ext hx14
    replace hE := hE.step hx14 (.inl (Nat.le_refl _))
    replace hb2 := hb2.ext hx14
    replace hbs := hbs.ext hx14
    replace hF := hF.ext hx14
    replace hT := hT.ext hx14
    replace hres := hres.ext hx14
    refine st (asI rfl) ?_
    refine st (asI rfl) ?_
    refine rg_end ?_
    refine n_then ?_
    refine wp_ret ?_
    refine r_blk (r_then (ret4 (v := (.slice _ _ _)) (v' := (.int .i64 _)) (v'' := (.int .i64 _)) (v3 := (.int .i64 _)) Try.results42 rfl rfl rfl rfl ?_))
    rw [g1, g2, g3, ← he]
    exact ⟨ar, cr, by rw [hus, hc0], Sl.wide hres (by omega) (by omega), hE⟩
  ·
    try simp only [decide_eq_true_eq, decide_eq_false_iff_not, Bool.not_eq_true', Bool.not_eq_false', Bool.and_eq_true, Bool.or_eq_true, Bool.or_eq_false_iff, Bool.cond_true_right, Bool.cond_false_right, Bool.cond_true_left, Bool.cond_false_left, ne_eq, Decidable.not_not, bne_iff_ne, beq_iff_eq, beq_eq_false_iff_ne, Bool.not_true, Bool.not_false] at hc0
    refine wp_seq ?_
    refine rg ?_
    refine st (y_eql rfl rfl) ?_
    refine st (asB rfl) ?_
    refine rg_end ?_
    refine n_then ?_
    refine cnd rfl (fun hc1 => ?_) (fun hc1 => ?_)
    ·
      try simp only [decide_eq_true_eq, decide_eq_false_iff_not, Bool.not_eq_true', Bool.not_eq_false', Bool.and_eq_true, Bool.or_eq_true, Bool.or_eq_false_iff, Bool.cond_true_right, Bool.cond_false_right, Bool.cond_true_left, Bool.cond_false_left, ne_eq, Decidable.not_not, bne_iff_ne, beq_iff_eq, beq_eq_false_iff_ne, Bool.not_true, Bool.not_false] at hc1
      obtain ⟨z, bs, rfl, hz0, hM⟩ := hp (.inr hc1)
      obtain ⟨bt, bf, ar, cr, Fl, hbs, hF, hFl, hFv, hT, hsi, hres, d1, d2, d3, d4, d5, d6⟩ := hM.ex
      obtain ⟨g1, g2, g3⟩ := find14 (he.symm.trans hc1)
      obtain ⟨_, _, hfe⟩ := fE_ok (N := N) (all := true) (B := B) (by apply Classical.byContradiction; intro h; have q := (fE_err (all := true) h).1; have q2 : nsE N B = 1 ∨ nsE N B = 4 ∨ nsE N B = 0 := nsE_cases; omega)
      have hus := usedR_no (rE_over (.inr (hfe.symm.trans (he.symm.trans hc1))))
      refine wp_seq ?_
      refine rgD 8 (fun w_ => Ext w5 w_) (fun i => false) mixed (by kernel_rfl) ?_
      intro w16 ho17 hs18
      refine ⟨ho17, ?_⟩
      have hx19 := ho17
      refine tn rfl (fun _ hG => mvP rfl) ?_
      refine tn rfl (fun _ hG => y_nil rfl) ?_
      refine tn rfl (fun _ hG => y_fld fld79_3 rfl) ?_
      refine tn rfl (fun _ hG => y_lb (hbs.ext hG) na3 rfl rfl) ?_
      refine tn rfl (fun _ hG => mvI rfl) ?_
      refine tn rfl (fun _ hG => asS rfl) ?_
      refine tn rfl (fun _ hG => asI rfl) ?_
      refine tn rfl (fun _ hG => asI rfl) ?_
      refine t_end ?_
      have hz20 := hx19.size
      replace hN := hN.ext hx19
      replace hE := hE.step hx19 (.inl (Nat.le_refl _))
      replace hb2 := hb2.ext hx19
      replace hbs := hbs.ext hx19
      replace hF := hF.ext hx19
      replace hT := hT.ext hx19
      replace hres := hres.ext hx19
      refine st (asI rfl) ?_
      refine rg_end ?_
      refine n_then ?_
      refine wp_ret ?_
      refine r_blk (r_then (ret4 (v := (.slice _ _ _)) (v' := (.int .i64 _)) (v'' := (.int .i64 _)) (v3 := (.int .i64 _)) Try.results42 rfl rfl rfl rfl ?_))
      rw [g1, g2, g3, ← he]
      exact ⟨none, 0, by rw [hus]; rfl, nilI _ _ _, hE⟩
    ·
      try simp only [decide_eq_true_eq, decide_eq_false_iff_not, Bool.not_eq_true', Bool.not_eq_false', Bool.and_eq_true, Bool.or_eq_true, Bool.or_eq_false_iff, Bool.cond_true_right, Bool.cond_false_right, Bool.cond_true_left, Bool.cond_false_left, ne_eq, Decidable.not_not, bne_iff_ne, beq_iff_eq, beq_eq_false_iff_ne, Bool.not_true, Bool.not_false] at hc1
      obtain ⟨g1, g2, g3⟩ := find15 (fun h => hc0 (he.trans h)) (fun h => hc1 (he.trans h))
      refine wp_skip ?_
      refine n_blk ?_
      refine n_then ?_
      refine wp_seq ?_
      refine rg ?_
      refine st (mvI rfl) ?_
      refine st (asS rfl) ?_
      refine st (asI rfl) ?_
      refine st (asI rfl) ?_
      refine st (asI rfl) ?_
      refine rg_end ?_
      refine n_then ?_
      refine wp_ret ?_
      refine ret4 (v := (.slice _ _ _)) (v' := (.int .i64 _)) (v'' := (.int .i64 _)) (v3 := (.int .i64 _)) Try.results42 rfl rfl rfl rfl ?_
      rw [g1, g2, g3, ← he]
      exact ⟨none, 0, rfl, nilI _ _ _, hE⟩
end Go.Proofs.Ytdbiapbdmmkfjaa
