/-
  Walks of the functions, printed by a program out of the code and the loops' relations.
-/
import Derived.Test.YtdbiapbdmmkfjaaWkD
import Derived.Test.YtdbiapbdmmkfjaaProg
import Derived.KernelRfl
import Derived.Test.YtdbiapbdmmkfjaaL1
namespace Go.Proofs.Ytdbiapbdmmkfjaa
open Go.Wk Go.RowKit
set_option linter.unusedVariables false
set_option linter.unusedSimpArgs false
theorem cl64 : Callable Try.prog 64 := ⟨Try.call64⟩
theorem cl66 : Callable Try.prog 66 := ⟨Try.call66⟩

set_option maxHeartbeats 1000000 in
set_option maxRecDepth 100000 in
theorem ref13_Gap_ok (N : Net) (A : NetA) (lo hi : Nat) (arcs signs : List Int) (aa : Option Addr) (ca la ha_ : Nat) (ag : Option Addr) (cg lg hg_ : Nat) (w : World) (hN : NetIn lo hi w N A) (hA : Ints la ha_ w aa arcs) (hca : arcs.length ≤ ca) (hSg : Ints lg hg_ w ag signs) (hn : (arcs.length : Int) ≤ 9223372036854775807)  : Cal Try.prog 53 [netV N A, .agg #[.slice aa arcs.length ca, .slice ag signs.length cg]] w (fun v w' => ∃ g ok, v = .tuple #[.int .i64 g, .bool ok] ∧ (ok = true → CyOk N arcs signs ∧ 0 ≤ g ∧ g ≤ 8000000) ∧ (CyOk N arcs signs → ∀ x : List Int, feas N x = true → ok = true ∧ g ≤ abC N x arcs arcs.length) ∧ Ext w w') := by
  replace hN := hN.full
  replace hA := Ints.full hA
  replace hSg := Ints.full hSg
  have hE : Out 0 0 w w := Out.refl _ _ w
  refine enter Try.func53 rfl Try.ntmps53 rfl ?_
  refine wp_seq ?_
  refine rg ?_
  refine sd (d_boxA rfl ?_)
  intro b2 w1 hbb2 hs3 ho2 hb2
  have hz4 := ho2.size
  replace hN := hN.ext ho2
  replace hA := hA.ext ho2
  replace hSg := hSg.ext ho2
  replace hE := hE.step ho2 (.inl (Nat.le_refl _))
  refine sd (d_boxA rfl ?_)
  intro b3 w5 hbb3 hs7 ho6 hb3
  have hz8 := ho6.size
  replace hN := hN.ext ho6
  replace hA := hA.ext ho6
  replace hSg := hSg.ext ho6
  replace hE := hE.step ho6 (.inl (Nat.le_refl _))
  replace hb2 := hb2.ext ho6
  refine st (asI rfl) ?_
  refine st (asB rfl) ?_
  refine rg_end ?_
  refine n_then ?_
  refine wp_seq ?_
  refine rg ?_
  refine st (y_lbN hb2 agg26 rfl) ?_
  refine st (y_lbN hb3 agg83 rfl) ?_
  refine sc cl64 (ref13_Windings_ok N A _ _ arcs signs _ _ _ _ _ _ _ _ _ hN hA hca hSg hn) rfl ?_
  rintro v13 w9 ⟨l, h, ok, rfl, q1, q2, ho10⟩
  have hz14 := ho10.size
  replace hN := hN.ext ho10
  replace hA := hA.ext ho10
  replace hSg := hSg.ext ho10
  replace hE := hE.step ho10 (.inl (Nat.le_refl _))
  replace hb2 := hb2.ext ho10
  replace hb3 := hb3.ext ho10
  refine st (mvT rfl) ?_
  refine st (y_ext rfl rfl) ?_
  refine st (y_ext rfl rfl) ?_
  refine st (y_ext rfl rfl) ?_
  refine st (asI rfl) ?_
  refine st (asI rfl) ?_
  refine st (asB rfl) ?_
  refine rg_end ?_
  refine n_then ?_
  refine wp_seq ?_
  refine wp_seq ?_
  refine rg ?_
  refine st (mvB rfl) ?_
  refine st (y_not rfl) ?_
  refine rg_end ?_
  refine n_then ?_
  refine cnd rfl (fun hc0 => ?_) (fun hc0 => ?_)
  ·
    try simp only [decide_eq_true_eq, decide_eq_false_iff_not, Bool.not_eq_true', Bool.not_eq_false', Bool.and_eq_true, Bool.or_eq_true, Bool.or_eq_false_iff, Bool.cond_true_right, Bool.cond_false_right, Bool.cond_true_left, Bool.cond_false_left, ne_eq, Decidable.not_not, bne_iff_ne, beq_iff_eq, beq_eq_false_iff_ne, Bool.not_true, Bool.not_false] at hc0
    refine wp_seq ?_
    refine rg ?_
    refine st (asI rfl) ?_
    refine st (asB rfl) ?_
    refine rg_end ?_
    refine n_then ?_
    refine wp_ret ?_
    refine r_then (ret2 (v := (.int .i64 _)) (v' := (.bool _)) Try.results53 rfl rfl ?_)
    exact ⟨0, false, rfl, (fun h => by cases h), (fun hc x hx => by
      obtain ⟨z, k1, k2, _, _⟩ := cyc_wind hc hx
      have := (q2 hc z k1 k2).1
      rw [hc0] at this; cases this), hE⟩
  ·
    try simp only [decide_eq_true_eq, decide_eq_false_iff_not, Bool.not_eq_true', Bool.not_eq_false', Bool.and_eq_true, Bool.or_eq_true, Bool.or_eq_false_iff, Bool.cond_true_right, Bool.cond_false_right, Bool.cond_true_left, Bool.cond_false_left, ne_eq, Decidable.not_not, bne_iff_ne, beq_iff_eq, beq_eq_false_iff_ne, Bool.not_true, Bool.not_false] at hc0
    obtain ⟨hc, w1, w2, w3, w4, w5, w6⟩ := q1 hc0
    have hok := hc.ok
    have hac := hok.ac
    have hp2 := hok.p2
    have hp7 := hok.p7
    have hcl := cy_len hc
    have hsr := sum_rng hok hc.a arcs.length (Nat.le_refl _)
    have hlh : l * N.p ≤ h * N.p := Int.mul_le_mul_of_nonneg_right w1 (by omega)
    refine wp_skip ?_
    refine n_then ?_
    refine wp_seq ?_
    refine rg ?_
    refine st (y_lbN hb2 agg26 rfl) ?_
    refine st (y_lbN hb3 agg83 rfl) ?_
    refine sc cl65 (ref13_sums_ok N A _ _ arcs signs _ _ _ _ _ _ _ _ _ hN hA hca hSg hn hc) rfl ?_
    rintro v19 w15 ⟨rfl, ho16⟩
    have hz20 := ho16.size
    replace hN := hN.ext ho16
    replace hA := hA.ext ho16
    replace hSg := hSg.ext ho16
    replace hE := hE.step ho16 (.inl (Nat.le_refl _))
    replace hb2 := hb2.ext ho16
    replace hb3 := hb3.ext ho16
    refine st (mvT rfl) ?_
    refine st (y_ext rfl rfl) ?_
    refine st (y_ext rfl rfl) ?_
    refine st (y_ext rfl rfl) ?_
    refine st (asI rfl) ?_
    refine st (asI rfl) ?_
    refine st (asI rfl) ?_
    refine rg_end ?_
    refine n_then ?_
    refine wp_seq ?_
    refine rg ?_
    refine st (mvI rfl) ?_
    refine st (y_fld fld26_0 rfl) ?_
    refine st (y_lb hb2 na3 rfl rfl) ?_
    refine st (y_mul rfl rfl (by omega)) ?_
    refine st (mvI rfl) ?_
    refine st (y_sub rfl rfl (by omega)) ?_
    refine sc cl66 (ref13_abs_ok _ _ (by omega)) rfl ?_
    rintro v25 w21 ⟨rfl, ho22⟩
    have hz26 := ho22.size
    replace hN := hN.ext ho22
    replace hA := hA.ext ho22
    replace hSg := hSg.ext ho22
    replace hE := hE.step ho22 (.inl (Nat.le_refl _))
    replace hb2 := hb2.ext ho22
    replace hb3 := hb3.ext ho22
    refine st (asI rfl) ?_
    refine rg_end ?_
    refine n_then ?_
    refine wp_seq ?_
    refine wp_seq ?_
    refine rg ?_
    refine st (mvI rfl) ?_
    refine st (asI rfl) ?_
    refine rg_end ?_
    refine n_then ?_
    refine wp_block ?_
    refine lp (γ := Int × Int) [12, 13, 38, 39, 40, 41, 42, 43, 44, 45, 46, 47, 48, 49, 50, 51] (fun ⟨z, g⟩ => [(13, .int .i64 z), (12, .int .i64 g)]) (fun ⟨z, g⟩ w_ => Ext w21 w_ ∧ l ≤ z ∧ z ≤ h + 1 ∧ (∀ y : Int, l ≤ y → y < z → g ≤ max (y * N.p - bsC N arcs signs arcs.length) (-(y * N.p - bsC N arcs signs arcs.length))) ∧ 0 ≤ g ∧ g ≤ 8000000) (fun ⟨z, g⟩ => (h + 1 - z).toNat) (l, max (l * N.p - bsC N arcs signs arcs.length) (-(l * N.p - bsC N arcs signs arcs.length))) ⟨rfl, rfl, trivial⟩ ⟨Out.refl _ _ _, Int.le_refl _, by omega, (fun y y1 y2 => by omega), by omega, by omega⟩ ?_
    rintro ⟨z, g⟩ hav_ w27 ⟨ho28, z1, z2, hgy, g0, g1⟩
    have hlp0 := ho28
    have hz29 := ho28.size
    replace hN := hN.ext ho28
    replace hA := hA.ext ho28
    replace hSg := hSg.ext ho28
    replace hE := hE.step ho28 (.inl (Nat.le_refl _))
    replace hb2 := hb2.ext ho28
    replace hb3 := hb3.ext ho28
    refine wp_seq ?_
    refine wp_seq ?_
    refine rg ?_
    refine st (mvI rfl) ?_
    refine st (mvI rfl) ?_
    refine st (y_leq rfl rfl) ?_
    refine rg_end ?_
    refine n_then ?_
    refine cnd rfl (fun hc1 => ?_) (fun hc1 => ?_)
    ·
      try simp only [decide_eq_true_eq, decide_eq_false_iff_not, Bool.not_eq_true', Bool.not_eq_false', Bool.and_eq_true, Bool.or_eq_true, Bool.or_eq_false_iff, Bool.cond_true_right, Bool.cond_false_right, Bool.cond_true_left, Bool.cond_false_left, ne_eq, Decidable.not_not, bne_iff_ne, beq_iff_eq, beq_eq_false_iff_ne, Bool.not_true, Bool.not_false] at hc1
      have m1 : l * N.p ≤ z * N.p := Int.mul_le_mul_of_nonneg_right z1 (by omega)
      have m2 : z * N.p ≤ h * N.p := Int.mul_le_mul_of_nonneg_right hc1 (by omega)
      have hg1 : ∀ y : Int, l ≤ y → y < z + 1 → min g (max (z * N.p - bsC N arcs signs arcs.length) (-(z * N.p - bsC N arcs signs arcs.length))) ≤ max (y * N.p - bsC N arcs signs arcs.length) (-(y * N.p - bsC N arcs signs arcs.length)) := fun y y1 y2 => by
        by_cases e : y = z
        · subst e; exact Int.min_le_right _ _
        · exact Int.le_trans (Int.min_le_left _ _) (hgy y y1 (by omega))
      refine wp_skip ?_
      refine n_then ?_
      refine wp_seq ?_
      refine wp_block ?_
      refine rg ?_
      refine st (mvI rfl) ?_
      refine st (mvI rfl) ?_
      refine st (y_fld fld26_0 rfl) ?_
      refine st (y_lb hb2 na3 rfl rfl) ?_
      refine st (y_mul rfl rfl (by omega)) ?_
      refine st (mvI rfl) ?_
      refine st (y_sub rfl rfl (by omega)) ?_
      refine sc cl66 (ref13_abs_ok _ _ (by omega)) rfl ?_
      rintro v34 w30 ⟨rfl, ho31⟩
      have hz35 := ho31.size
      replace hN := hN.ext ho31
      replace hA := hA.ext ho31
      replace hSg := hSg.ext ho31
      replace hE := hE.step ho31 (.inl (Nat.le_refl _))
      replace hb2 := hb2.ext ho31
      replace hb3 := hb3.ext ho31
      replace hlp0 := hlp0.step ho31 (.inl (Nat.le_refl _))
      refine st (y_min rfl rfl) ?_
      refine st (asI rfl) ?_
      refine rg_end ?_
      refine n_blk ?_
      refine n_then ?_
      refine rg ?_
      refine st (mvI rfl) ?_
      refine st (y_add rfl rfl (by omega)) ?_
      refine st (asI rfl) ?_
      refine rg_end ?_
      exact n_then ⟨(z + 1, _), _, rfl, same_lk rfl (same_h0), ⟨rfl, rfl, trivial⟩, ⟨hlp0, by omega, by omega, hg1, by omega, by omega⟩, by first | omega | (dsimp only; omega)⟩
    ·
      try simp only [decide_eq_true_eq, decide_eq_false_iff_not, Bool.not_eq_true', Bool.not_eq_false', Bool.and_eq_true, Bool.or_eq_true, Bool.or_eq_false_iff, Bool.cond_true_right, Bool.cond_false_right, Bool.cond_true_left, Bool.cond_false_left, ne_eq, Decidable.not_not, bne_iff_ne, beq_iff_eq, beq_eq_false_iff_ne, Bool.not_true, Bool.not_false] at hc1
      refine wp_exit ?_
      refine e_then (e_then (e_blk (?_)))
      refine n_then ?_
      refine wp_seq ?_
      refine rg ?_
      refine st (mvI rfl) ?_
      refine st (asI rfl) ?_
      refine st (asB rfl) ?_
      refine rg_end ?_
      refine n_then ?_
      refine wp_ret ?_
      refine ret2 (v := (.int .i64 _)) (v' := (.bool _)) Try.results53 rfl rfl ?_
      exact ⟨g, true, rfl, (fun _ => ⟨hc, g0, g1⟩), (fun hc x hx => ⟨rfl, by
        obtain ⟨y, k1, k2, k3, k4⟩ := cyc_wind hc hx
        obtain ⟨_, j1, j2⟩ := q2 hc y k1 k2
        have := hgy y j1 (by omega)
        omega⟩), hE⟩
end Go.Proofs.Ytdbiapbdmmkfjaa
