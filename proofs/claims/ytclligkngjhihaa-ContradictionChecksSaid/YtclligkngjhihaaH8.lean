/-
  Walks of the functions, printed by a program out of the code and the loops' relations.
-/
import Derived.Test.YtclligkngjhihaaWkG
import Derived.Test.YtclligkngjhihaaProg
import Derived.KernelRfl
import Derived.Test.YtclligkngjhihaaH7
namespace Go.Proofs.Ytclligkngjhihaa
open Go.Wk Go.RowKit
set_option linter.unusedVariables false
set_option linter.unusedSimpArgs false
set_option maxRecDepth 100000 in
theorem ref17_Ascending_ok (l : List Int) (al : Option Addr) (cl ll hl : Nat) (most : Int) (w : World) (hL : Ints ll hl w al l) (hn : (l.length : Int) ≤ 9223372036854775807) : Cal Try.prog 22 [.slice al l.length cl, .int .i64 most] w (fun v w' => v = .bool (ascB (most + 1) (-1) l) ∧ Ext w w') := by
  replace hL := Ints.full hL
  have hE : Out 0 0 w w := Out.refl _ _ w
  refine enter Try.func22 rfl Try.ntmps22 rfl ?_
  refine wp_seq ?_
  refine rg ?_
  refine st (asB rfl) ?_
  refine rg_end ?_
  refine n_then ?_
  refine wp_seq ?_
  refine wp_seq ?_
  refine rg ?_
  refine st (asI rfl) ?_
  refine rg_end ?_
  refine n_then ?_
  refine wp_block ?_
  refine lp (γ := Nat × Int) [4, 5, 6, 7, 8, 9, 10, 11, 12, 13, 14, 15, 16, 17, 18, 19, 20, 21, 22, 23, 24, 25, 26, 27, 28, 29, 30, 31, 32, 33, 34] (fun ⟨k, last⟩ => [(5, .int .i64 (k : Int))]) (fun ⟨k, last⟩ w_ => Ext w w_ ∧ (k : Int) ≤ l.length ∧ ((k = 0 ∧ last = -1) ∨ (0 < k ∧ last = el l ((k : Int) - 1) ∧ 0 ≤ last)) ∧ ascB (most + 1) (-1) l = ascB (most + 1) last (l.drop k)) (fun ⟨k, last⟩ => l.length - k) (0, -1) ⟨rfl, trivial⟩ ⟨Out.refl _ _ _, by simp, .inl ⟨rfl, rfl⟩, rfl⟩ ?_
  rintro ⟨k, last⟩ hav_ w1 ⟨ho2, hk, hla, hasc⟩
  have hlp0 := ho2
  have hz3 := ho2.size
  replace hL := hL.ext ho2
  replace hE := hE.step ho2 (.inl (Nat.le_refl _))
  refine wp_seq ?_
  refine wp_seq ?_
  refine rg ?_
  refine st (mvI rfl) ?_
  refine st (mvS rfl) ?_
  refine st (y_len Try.underlying22 rfl) ?_
  refine st (y_lss rfl rfl) ?_
  refine rg_end ?_
  refine n_then ?_
  refine cnd rfl (fun hc0 => ?_) (fun hc0 => ?_)
  ·
    try simp only [decide_eq_true_eq, decide_eq_false_iff_not, Bool.not_eq_true', Bool.not_eq_false', Bool.and_eq_true, Bool.or_eq_true, Bool.or_eq_false_iff, Bool.cond_true_right, Bool.cond_false_right, Bool.cond_true_left, Bool.cond_false_left, ne_eq, Decidable.not_not, bne_iff_ne, beq_iff_eq, beq_eq_false_iff_ne, Bool.not_true, Bool.not_false] at hc0
    have hd := dropE hc0
    refine wp_skip ?_
    refine n_then ?_
    refine wp_seq ?_
    refine wp_block ?_
    refine wp_seq ?_
    refine rgD 20 (fun w_ => Ext w1 w_) (fun i => Nat.beq i 5) mixed (by kernel_rfl) ?_
    intro w4 ho5 hs6
    refine ⟨ho5, ?_⟩
    have hx7 := ho5
    refine tn rfl (fun _ hG => mvS rfl) ?_
    refine tn rfl (fun _ hG => mvI rfl) ?_
    refine tn rfl (fun _ hG => y_ix (hL.ext hG) sl22 rfl (rfl) rfl (by omega) (by omega)) ?_
    refine tn rfl (fun _ hG => y_le (hL.ext hG) na3 rfl (by omega) (by omega) rfl) ?_
    refine tn rfl (fun _ hG => mvI rfl) ?_
    refine tc rfl cl44 (ref17_in_ok _ _ _ _) rfl ?_
    rintro v12 w8 ⟨rfl, ho9⟩
    have hx13 := hx7.step ho9 (.inl (Nat.le_refl _))
    have hz14 := ho9.size
    refine ⟨hx13, ?_⟩
    refine tn rfl (fun _ hG => y_not rfl) ?_
    refine tn rfl (fun _ hG => mvB rfl) ?_
    refine gspT 19 rfl (fun hg15 => ?_) (fun hg15 => ?_)
    ·
      have hg15n := hg15; try simp only [decide_eq_true_eq, decide_eq_false_iff_not, Bool.not_eq_true', Bool.not_eq_false', Bool.and_eq_true, Bool.or_eq_true, Bool.or_eq_false_iff, Bool.cond_true_right, Bool.cond_false_right, Bool.cond_true_left, Bool.cond_false_left, ne_eq, Decidable.not_not, bne_iff_ne, beq_iff_eq, beq_eq_false_iff_ne, Bool.not_true, Bool.not_false] at hg15n
      refine tns rfl rfl hg15 ?_
      refine tns rfl rfl hg15 ?_
      refine tns rfl rfl hg15 ?_
      refine tnu rfl rfl ?_
      refine tnu rfl rfl ?_
      refine tnu rfl rfl ?_
      refine tnu rfl rfl ?_
      refine tnu rfl rfl ?_
      refine tnu rfl rfl ?_
      refine tnu rfl rfl ?_
      refine tnu rfl rfl ?_
      refine tnu rfl rfl ?_
      refine t_end ?_
      have hz16 := hx13.size
      replace hL := hL.ext hx13
      replace hE := hE.step hx13 (.inl (Nat.le_refl _))
      replace hlp0 := hlp0.step hx13 (.inl (Nat.le_refl _))
      refine stu rfl rfl ?_
      refine sts rfl rfl hg15 ?_
      refine st (y_pickT rfl hg15 (v := .bool _) rfl) ?_
      refine rg_end ?_
      refine n_then ?_
      refine cnd rfl (fun hc1 => ?_) (fun hc1 => absurd hc1 (by decide))
      have hst : ascB (most + 1) last (l.drop k) = false := by rw [hd, ascB, decide_eq_false (by omega), Bool.false_and]
      refine wp_seq ?_
      refine rg ?_
      refine st (asB rfl) ?_
      refine rg_end ?_
      refine n_then ?_
      refine wp_ret ?_
      refine r_blk (r_then (r_then (r_blk (r_then (ret1 (v := (.bool _)) Try.results22 rfl ?_)))))
      exact ⟨by rw [hasc, hst], hE⟩
    ·
      have hg15n := hg15; try simp only [decide_eq_true_eq, decide_eq_false_iff_not, Bool.not_eq_true', Bool.not_eq_false', Bool.and_eq_true, Bool.or_eq_true, Bool.or_eq_false_iff, Bool.cond_true_right, Bool.cond_false_right, Bool.cond_true_left, Bool.cond_false_left, ne_eq, Decidable.not_not, bne_iff_ne, beq_iff_eq, beq_eq_false_iff_ne, Bool.not_true, Bool.not_false] at hg15n
      refine tng rfl rfl rfl hg15 (fun _ hG => mvI rfl) ?_
      refine tng rfl rfl rfl hg15 (fun _ hG => y_gtr rfl rfl) ?_
      refine tng rfl rfl rfl hg15 (fun _ hG => mvB rfl) ?_
      refine gspT 22 rfl (fun hg17 => ?_) (fun hg17 => ?_)
      ·
        have hg17n := hg17; try simp only [decide_eq_true_eq, decide_eq_false_iff_not, Bool.not_eq_true', Bool.not_eq_false', Bool.and_eq_true, Bool.or_eq_true, Bool.or_eq_false_iff, Bool.cond_true_right, Bool.cond_false_right, Bool.cond_true_left, Bool.cond_false_left, ne_eq, Decidable.not_not, bne_iff_ne, beq_iff_eq, beq_eq_false_iff_ne, Bool.not_true, Bool.not_false] at hg17n
        refine tng rfl rfl rfl hg17 (fun _ hG => mvS rfl) ?_
        refine tng rfl rfl rfl hg17 (fun _ hG => mvI rfl) ?_
        refine tng rfl rfl rfl hg17 (fun _ hG => y_ix (hL.ext hG) sl22 rfl (rfl) rfl (by omega) (by omega)) ?_
        refine tng rfl rfl rfl hg17 (fun _ hG => y_le (hL.ext hG) na3 rfl (by omega) (by omega) rfl) ?_
        refine tng rfl rfl rfl hg17 (fun _ hG => mvS rfl) ?_
        refine tng rfl rfl rfl hg17 (fun _ hG => mvI rfl) ?_
        refine tng rfl rfl rfl hg17 (fun _ hG => y_sub rfl rfl (by omega)) ?_
        refine tng rfl rfl rfl hg17 (fun _ hG => y_ix (hL.ext hG) sl22 rfl (rfl) rfl (by omega) (by omega)) ?_
        refine tng rfl rfl rfl hg17 (fun _ hG => y_le (hL.ext hG) na3 rfl (by omega) (by omega) rfl) ?_
        refine t_end ?_
        have hz18 := hx13.size
        replace hL := hL.ext hx13
        replace hE := hE.step hx13 (.inl (Nat.le_refl _))
        replace hlp0 := hlp0.step hx13 (.inl (Nat.le_refl _))
        refine stg rfl rfl hg17 (y_leq rfl rfl) ?_
        refine stg rfl rfl hg15 (y_pickT rfl hg17 (v := .bool _) rfl) ?_
        refine st (y_pickF rfl hg15 (v := .bool _) rfl) ?_
        refine rg_end ?_
        refine n_then ?_
        refine cnd rfl (fun hc1 => ?_) (fun hc1 => ?_)
        ·
          try simp only [decide_eq_true_eq, decide_eq_false_iff_not, Bool.not_eq_true', Bool.not_eq_false', Bool.and_eq_true, Bool.or_eq_true, Bool.or_eq_false_iff, Bool.cond_true_right, Bool.cond_false_right, Bool.cond_true_left, Bool.cond_false_left, ne_eq, Decidable.not_not, bne_iff_ne, beq_iff_eq, beq_eq_false_iff_ne, Bool.not_true, Bool.not_false] at hc1
          have hst : ascB (most + 1) last (l.drop k) = false := by rw [hd, ascB, decide_eq_false (by omega), Bool.false_and]
          refine wp_seq ?_
          refine rg ?_
          refine st (asB rfl) ?_
          refine rg_end ?_
          refine n_then ?_
          refine wp_ret ?_
          refine r_blk (r_then (r_then (r_blk (r_then (ret1 (v := (.bool _)) Try.results22 rfl ?_)))))
          exact ⟨by rw [hasc, hst], hE⟩
        ·
          try simp only [decide_eq_true_eq, decide_eq_false_iff_not, Bool.not_eq_true', Bool.not_eq_false', Bool.and_eq_true, Bool.or_eq_true, Bool.or_eq_false_iff, Bool.cond_true_right, Bool.cond_false_right, Bool.cond_true_left, Bool.cond_false_left, ne_eq, Decidable.not_not, bne_iff_ne, beq_iff_eq, beq_eq_false_iff_ne, Bool.not_true, Bool.not_false] at hc1
          have hgo : ascB (most + 1) last (l.drop k) = ascB (most + 1) (el l (k : Int)) (l.drop (k + 1)) := by rw [hd, ascB, decide_eq_true (by omega), Bool.true_and]
          have hla1 : (k + 1 = 0 ∧ el l (k : Int) = -1) ∨ (0 < k + 1 ∧ el l (k : Int) = el l (((k + 1 : Nat) : Int) - 1) ∧ 0 ≤ el l (k : Int)) := .inr ⟨by omega, by congr 1; omega, by omega⟩
          refine wp_skip ?_
          refine n_blk ?_
          refine n_then ?_
          refine rg ?_
          refine st (mvI rfl) ?_
          refine st (y_add rfl rfl (by omega)) ?_
          refine st (asI rfl) ?_
          refine rg_end ?_
          exact n_then ⟨(k + 1, el l (k : Int)), _, rfl, same_lk rfl (same_h0), ⟨rfl, trivial⟩, ⟨hlp0, by omega, hla1, hasc.trans hgo⟩, by first | omega | (dsimp only; omega)⟩
      ·
        have hg17n := hg17; try simp only [decide_eq_true_eq, decide_eq_false_iff_not, Bool.not_eq_true', Bool.not_eq_false', Bool.and_eq_true, Bool.or_eq_true, Bool.or_eq_false_iff, Bool.cond_true_right, Bool.cond_false_right, Bool.cond_true_left, Bool.cond_false_left, ne_eq, Decidable.not_not, bne_iff_ne, beq_iff_eq, beq_eq_false_iff_ne, Bool.not_true, Bool.not_false] at hg17n
        refine tns rfl rfl hg17 ?_
        refine tns rfl rfl hg17 ?_
        refine tns rfl rfl hg17 ?_
        refine tns rfl rfl hg17 ?_
        refine tns rfl rfl hg17 ?_
        refine tns rfl rfl hg17 ?_
        refine tns rfl rfl hg17 ?_
        refine tns rfl rfl hg17 ?_
        refine tns rfl rfl hg17 ?_
        refine t_end ?_
        have hz19 := hx13.size
        replace hL := hL.ext hx13
        replace hE := hE.step hx13 (.inl (Nat.le_refl _))
        replace hlp0 := hlp0.step hx13 (.inl (Nat.le_refl _))
        refine sts rfl rfl hg17 ?_
        refine stg rfl rfl hg15 (y_pickF rfl hg17 (v := .bool _) rfl) ?_
        refine st (y_pickF rfl hg15 (v := .bool _) rfl) ?_
        refine rg_end ?_
        refine n_then ?_
        refine cnd rfl (fun hc1 => absurd hc1 (by decide)) (fun hc1 => ?_)
        have hgo : ascB (most + 1) last (l.drop k) = ascB (most + 1) (el l (k : Int)) (l.drop (k + 1)) := by rw [hd, ascB, decide_eq_true (by omega), Bool.true_and]
        have hla1 : (k + 1 = 0 ∧ el l (k : Int) = -1) ∨ (0 < k + 1 ∧ el l (k : Int) = el l (((k + 1 : Nat) : Int) - 1) ∧ 0 ≤ el l (k : Int)) := .inr ⟨by omega, by congr 1; omega, by omega⟩
        refine wp_skip ?_
        refine n_blk ?_
        refine n_then ?_
        refine rg ?_
        refine st (mvI rfl) ?_
        refine st (y_add rfl rfl (by omega)) ?_
        refine st (asI rfl) ?_
        refine rg_end ?_
        exact n_then ⟨(k + 1, el l (k : Int)), _, rfl, same_lk rfl (same_h0), ⟨rfl, trivial⟩, ⟨hlp0, by omega, hla1, hasc.trans hgo⟩, by first | omega | (dsimp only; omega)⟩
  ·
    try simp only [decide_eq_true_eq, decide_eq_false_iff_not, Bool.not_eq_true', Bool.not_eq_false', Bool.and_eq_true, Bool.or_eq_true, Bool.or_eq_false_iff, Bool.cond_true_right, Bool.cond_false_right, Bool.cond_true_left, Bool.cond_false_left, ne_eq, Decidable.not_not, bne_iff_ne, beq_iff_eq, beq_eq_false_iff_ne, Bool.not_true, Bool.not_false] at hc0
    refine wp_exit ?_
    refine e_then (e_then (e_blk (?_)))
    refine n_then ?_
    refine wp_seq ?_
    refine rg ?_
    refine st (asB rfl) ?_
    refine rg_end ?_
    refine n_then ?_
    refine wp_ret ?_
    refine ret1 (v := (.bool _)) Try.results22 rfl ?_
    exact ⟨by rw [hasc, List.drop_eq_nil_of_le (by omega)]; rfl, hE⟩

set_option maxRecDepth 100000 in
theorem ref17_Without_ok (l : List Int) (al : Option Addr) (cl ll hl : Nat) (i : Nat) (w : World) (hL : Ints ll hl w al l) (hcl : l.length ≤ cl) (hn : (l.length : Int) ≤ 1000000) (hi : i < l.length) : Cal Try.prog 24 [.slice al l.length cl, .int .i64 (i : Int)] w (fun v w' => ∃ ad c, v = .slice ad (wo l i).length c ∧ (wo l i).length ≤ c ∧ Ow 3 encI 1 w.heap.size w'.heap.size w' ad c (wo l i) ∧ Ext w w') := by
  replace hL := Ints.full hL
  have hA := Sl.take hL i
  have hB := Sl.drop hL hcl (i + 1)
  have hlt : (l.take i).length = i := by rw [List.length_take]; omega
  have hld : (l.drop (i + 1)).length = l.length - (i + 1) := List.length_drop ..
  have hE : Out 0 0 w w := Out.refl _ _ w
  refine enter Try.func24 rfl Try.ntmps24 rfl ?_
  refine wp_seq ?_
  refine rg ?_
  refine st (asS rfl) ?_
  refine rg_end ?_
  refine n_then ?_
  refine wp_seq ?_
  refine rgD 8 (fun w_ => Out 0 0 w w_) (fun i => Nat.beq i 3) mixed (by kernel_rfl) ?_
  intro w1 ho2 hs3
  refine ⟨ho2.wide (.inl (Nat.le_refl _)), ?_⟩
  have hx4 := ho2.wide (a' := 0) (b' := 0) (.inl (Nat.le_refl _))
  refine tn rfl (fun _ hG => mvS rfl) ?_
  refine tn rfl (fun _ hG => mvI rfl) ?_
  refine tn rfl (fun _ hG => y_slh sl22 rfl rfl (by omega) (by omega)) ?_
  have hO := Ow.nil (E := 3) (sz := 1) (enc := encI) (lo := w.heap.size) (hi := 0) (w := w1) (fun _ => rfl)
  have hrhO := hO.rng
  refine td rfl (d_appN (xs := l.take i) hO sl22 infoz3 (by decide) rfl rfl rfl (hlt.symm) ((hA.out hx4 (by first | omega | (simp only [blk_some, hi1_some] at *; omega)))) (fun _ => rfl) (by simp; unfold maxLen; omega) (by simp; omega) (by omega) (by omega) ?_)
  intro ao1 co1 w5 ho6 hO'
  have hs7 := ho6.size
  clear hO; have hO := hO'; clear hO'
  replace ho6 : Ext _ _ := ho6
  have hx10 := hx4.step ho6 (.inl (Nat.le_refl _))
  have hz11 := ho6.size
  refine ⟨hx10, ?_⟩
  refine tn rfl (fun _ hG => mvS rfl) ?_
  refine tn rfl (fun _ hG => mvI rfl) ?_
  refine tn rfl (fun _ hG => y_add rfl rfl (by omega)) ?_
  refine tn rfl (fun _ hG => y_sll sl22 rfl rfl (by omega) (by omega)) ?_
  refine t_end ?_
  have hz12 := hx10.size
  replace hL := hL.out hx10 (by first | omega | (simp only [blk_some, hi1_some] at *; omega))
  replace hA := hA.out hx10 (by first | omega | (simp only [blk_some, hi1_some] at *; omega))
  replace hB := hB.out hx10 (by first | omega | (simp only [blk_some, hi1_some] at *; omega))
  replace hE := hE.step hx10 (by first | omega | (simp only [blk_some, hi1_some] at *; omega))
  have hrhO := hO.rng
  refine sd (d_appN (xs := l.drop (i + 1)) hO sl22 infoz3 (by decide) rfl rfl rfl (by rw [hld]; omega) (hB) (fun _ => rfl) (by simp; unfold maxLen; omega) (by simp; omega) (by omega) (by omega) ?_)
  intro ao2 co2 w13 ho14 hO'
  have hs15 := ho14.size
  clear hO; have hO := hO'; clear hO'
  have hz18 := ho14.size
  replace hL := hL.out ho14 (by first | omega | (simp only [blk_some, hi1_some] at *; omega))
  replace hA := hA.out ho14 (by first | omega | (simp only [blk_some, hi1_some] at *; omega))
  replace hB := hB.out ho14 (by first | omega | (simp only [blk_some, hi1_some] at *; omega))
  replace hE := hE.step ho14 (by first | omega | (simp only [blk_some, hi1_some] at *; omega))
  refine st (asS rfl) ?_
  refine rg_end ?_
  refine n_then ?_
  refine wp_ret ?_
  refine ret1 (v := (.slice _ _ _)) Try.results24 rfl ?_
  exact ⟨ao2, co2, rfl, hO.lenLe, hO.wide (by omega), hE⟩
end Go.Proofs.Ytclligkngjhihaa
