/-
  Walks of the functions, printed by a program out of the code and the loops' relations.
-/
import Derived.Test.YtggaekjnpbicnaaWkD
import Derived.Test.YtggaekjnpbicnaaProg
import Derived.KernelRfl
import Derived.Test.YtggaekjnpbicnaaKeep
import Derived.Test.YtggaekjnpbicnaaFw
import Derived.Test.YtggaekjnpbicnaaA1
import Derived.Test.YtggaekjnpbicnaaA2
import Derived.Test.YtggaekjnpbicnaaA3
import Derived.Test.YtggaekjnpbicnaaA4
import Derived.Test.YtggaekjnpbicnaaA5
namespace Go.Proofs.Ytggaekjnpbicnaa
open Go.Wk Go.RowKit
set_option linter.unusedVariables false
set_option linter.unusedSimpArgs false
theorem cl23 : Callable Try.prog 23 := ⟨Try.call23⟩
theorem cl26 : Callable Try.prog 26 := ⟨Try.call26⟩
theorem cl27 : Callable Try.prog 27 := ⟨Try.call27⟩
theorem cl28 : Callable Try.prog 28 := ⟨Try.call28⟩

def DistRes (N : Net) (t : List Int) (i j d : Int) (ok : Bool) (e : Int) : Prop :=
  if feas N t = false then d = 0 ∧ ok = false ∧ e = 1
  else if ¬ (0 ≤ i ∧ i < N.evs.length ∧ 0 ≤ j ∧ j < N.evs.length) then d = 0 ∧ ok = false ∧ e = 4
  else ∃ M, DistOk N t N.evs.length M ∧ e = 0 ∧ ((M i j = -1 ∧ d = 0 ∧ ok = false) ∨ (M i j ≠ -1 ∧ d = M i j ∧ ok = true))
theorem feas_good {N : Net} {t : List Int} (h : feas N t = true) : GoodT N t := goodT_iff.1 (by unfold feas at h; simp only [Bool.and_eq_true] at h; exact h.1)

set_option maxRecDepth 100000 in
theorem robust_Distance_ok (N : Net) (A : NetA) (lo hi : Nat) (t : List Int) (at_ : Option Addr) (ct : Nat) (lt ht : Nat) (i j : Int) (w : World) (hN : NetIn lo hi w N A) (hT : Ints lt ht w at_ t)  : Cal Try.prog 14 [netV N A, .slice at_ t.length ct, .int .i64 i, .int .i64 j] w (fun v w' => ∃ d ok e, v = .tuple #[.int .i64 d, .bool ok, .int .i64 e] ∧  DistRes N t i j d ok e ∧ Ext w w') := by
  replace hN := hN.full
  replace hT := Ints.full hT
  have hE : Out 0 0 w w := Out.refl _ _ w
  refine enter Try.func14 rfl Try.ntmps14 rfl ?_
  refine wp_seq ?_
  refine rg ?_
  refine sd (d_boxA rfl ?_)
  intro bl4 w1 hbbl4 hs3 ho2 hbl4
  have hz5 := ho2.size
  replace hN := hN.ext ho2
  replace hT := hT.ext ho2
  replace hE := hE.step ho2 (.inl (Nat.le_refl _))
  refine st (asI rfl) ?_
  refine st (asB rfl) ?_
  refine st (asI rfl) ?_
  refine rg_end ?_
  refine n_then ?_
  refine wp_seq ?_
  refine wp_seq ?_
  refine rg ?_
  refine st (y_lbN hbl4 agg26 rfl) ?_
  refine st (mvS rfl) ?_
  refine sc cl26 (network_Feasible_ok N A _ _ t _ _ _ _ _ hN hT) rfl ?_
  rintro v10 w6 ⟨rfl, ho7⟩
  have hz11 := ho7.size
  replace hN := hN.ext ho7
  replace hT := hT.ext ho7
  replace hE := hE.step ho7 (.inl (Nat.le_refl _))
  replace hbl4 := hbl4.ext ho7
  refine st (y_not rfl) ?_
  refine rg_end ?_
  refine n_then ?_
  refine cnd rfl (fun hc0 => ?_) (fun hc0 => ?_)
  ·
    try simp only [decide_eq_true_eq, decide_eq_false_iff_not, Bool.not_eq_true', Bool.not_eq_false', Bool.and_eq_true, Bool.or_eq_true, Bool.or_eq_false_iff, Bool.cond_true_right, Bool.cond_false_right, Bool.cond_true_left, Bool.cond_false_left, ne_eq, Decidable.not_not, bne_iff_ne, beq_iff_eq, beq_eq_false_iff_ne, Bool.not_true, Bool.not_false] at hc0
    refine wp_seq ?_
    refine rg ?_
    refine st (asI rfl) ?_
    refine st (asB rfl) ?_
    refine st (asI rfl) ?_
    refine rg_end ?_
    refine n_then ?_
    refine wp_ret ?_
    refine r_then (ret3 (v := (.int .i64 _)) (v' := (.bool _)) (v'' := (.int .i64 _)) Try.results14 rfl rfl rfl ?_)
    exact ⟨_, _, _, rfl, by unfold DistRes; rw [if_pos hc0]; exact ⟨rfl, rfl, rfl⟩, hE⟩
  ·
    try simp only [decide_eq_true_eq, decide_eq_false_iff_not, Bool.not_eq_true', Bool.not_eq_false', Bool.and_eq_true, Bool.or_eq_true, Bool.or_eq_false_iff, Bool.cond_true_right, Bool.cond_false_right, Bool.cond_true_left, Bool.cond_false_left, ne_eq, Decidable.not_not, bne_iff_ne, beq_iff_eq, beq_eq_false_iff_ne, Bool.not_true, Bool.not_false] at hc0
    have hg := feas_good hc0
    refine wp_skip ?_
    refine n_then ?_
    refine wp_seq ?_
    refine cut (γ := Unit) [16, 17, 18, 19, 20, 21, 22, 23, 24, 25] (fun _ => [(25, .bool (decide (¬ (0 ≤ i ∧ i < N.evs.length ∧ 0 ≤ j ∧ j < N.evs.length))))]) (fun _ w_ => Ext w6 w_ ∧ True) ?_ ?_
    ·
      have hcut := Out.refl 0 0 w6
      refine rg ?_
      refine st (y_lbN hbl4 agg26 rfl) ?_
      refine st (mvI rfl) ?_
      refine sc cl27 (robust_event_ok N A _ _ _ _ hN) rfl ?_
      rintro v16 w12 ⟨rfl, ho13⟩
      have hz17 := ho13.size
      replace hN := hN.ext ho13
      replace hT := hT.ext ho13
      replace hE := hE.step ho13 (.inl (Nat.le_refl _))
      replace hbl4 := hbl4.ext ho13
      replace hcut := hcut.step ho13 (.inl (Nat.le_refl _))
      refine st (y_not rfl) ?_
      refine st (mvB rfl) ?_
      refine gspL 20 rfl (fun hg18 => ?_) (fun hg18 => ?_)
      ·
        have hg18n := hg18; try simp only [decide_eq_true_eq, decide_eq_false_iff_not, Bool.not_eq_true', Bool.not_eq_false', Bool.and_eq_true, Bool.or_eq_true, Bool.or_eq_false_iff, Bool.cond_true_right, Bool.cond_false_right, Bool.cond_true_left, Bool.cond_false_left, ne_eq, Decidable.not_not, bne_iff_ne, beq_iff_eq, beq_eq_false_iff_ne, Bool.not_true, Bool.not_false] at hg18n
        refine sts rfl rfl hg18 ?_
        refine sts rfl rfl hg18 ?_
        refine sts rfl rfl hg18 ?_
        refine sts rfl rfl hg18 ?_
        refine st (y_pickT rfl hg18 (v := .bool _) rfl) ?_
        refine rg_end ?_
        exact n_then ⟨(), _, rfl, same_lk rfl (same_rfl), ⟨vb (by simp only [decide_eq_true_eq, decide_eq_false_iff_not, Bool.not_eq_true', Bool.not_eq_eq_eq_not, Bool.not_true, Bool.false_eq_true, false_iff, true_iff, iff_true, iff_false]; omega), trivial⟩, ⟨hcut, trivial⟩⟩
      ·
        have hg18n := hg18; try simp only [decide_eq_true_eq, decide_eq_false_iff_not, Bool.not_eq_true', Bool.not_eq_false', Bool.and_eq_true, Bool.or_eq_true, Bool.or_eq_false_iff, Bool.cond_true_right, Bool.cond_false_right, Bool.cond_true_left, Bool.cond_false_left, ne_eq, Decidable.not_not, bne_iff_ne, beq_iff_eq, beq_eq_false_iff_ne, Bool.not_true, Bool.not_false] at hg18n
        refine stg rfl rfl hg18 (y_lbN hbl4 agg26 rfl) ?_
        refine stg rfl rfl hg18 (mvI rfl) ?_
        refine scg rfl rfl hg18 cl27 (robust_event_ok N A _ _ _ _ hN) rfl ?_
        rintro v23 w19 ⟨rfl, ho20⟩
        have hz24 := ho20.size
        replace hN := hN.ext ho20
        replace hT := hT.ext ho20
        replace hE := hE.step ho20 (.inl (Nat.le_refl _))
        replace hbl4 := hbl4.ext ho20
        replace hcut := hcut.step ho20 (.inl (Nat.le_refl _))
        refine stg rfl rfl hg18 (y_not rfl) ?_
        refine st (y_pickF rfl hg18 (v := .bool _) rfl) ?_
        refine rg_end ?_
        exact n_then ⟨(), _, rfl, same_lk rfl (same_rfl), ⟨vb (by simp only [decide_eq_true_eq, decide_eq_false_iff_not, Bool.not_eq_true', Bool.not_eq_eq_eq_not, Bool.not_true, Bool.false_eq_true, false_iff, true_iff, iff_true, iff_false]; omega), trivial⟩, ⟨hcut, trivial⟩⟩
    ·
      rintro _ hav_ w25 ⟨ho26, _⟩
      have hz27 := ho26.size
      replace hN := hN.ext ho26
      replace hT := hT.ext ho26
      replace hE := hE.step ho26 (.inl (Nat.le_refl _))
      replace hbl4 := hbl4.ext ho26
      refine cnd rfl (fun hc1 => ?_) (fun hc1 => ?_)
      ·
        try simp only [decide_eq_true_eq, decide_eq_false_iff_not, Bool.not_eq_true', Bool.not_eq_false', Bool.and_eq_true, Bool.or_eq_true, Bool.or_eq_false_iff, Bool.cond_true_right, Bool.cond_false_right, Bool.cond_true_left, Bool.cond_false_left, ne_eq, Decidable.not_not, bne_iff_ne, beq_iff_eq, beq_eq_false_iff_ne, Bool.not_true, Bool.not_false] at hc1
        refine wp_seq ?_
        refine rg ?_
        refine st (asI rfl) ?_
        refine st (asB rfl) ?_
        refine st (asI rfl) ?_
        refine rg_end ?_
        refine n_then ?_
        refine wp_ret ?_
        refine r_then (ret3 (v := (.int .i64 _)) (v' := (.bool _)) (v'' := (.int .i64 _)) Try.results14 rfl rfl rfl ?_)
        exact ⟨_, _, _, rfl, by unfold DistRes; rw [if_neg (by simp [hc0]), if_pos hc1]; exact ⟨rfl, rfl, rfl⟩, hE⟩
      ·
        try simp only [decide_eq_true_eq, decide_eq_false_iff_not, Bool.not_eq_true', Bool.not_eq_false', Bool.and_eq_true, Bool.or_eq_true, Bool.or_eq_false_iff, Bool.cond_true_right, Bool.cond_false_right, Bool.cond_true_left, Bool.cond_false_left, ne_eq, Decidable.not_not, bne_iff_ne, beq_iff_eq, beq_eq_false_iff_ne, Bool.not_true, Bool.not_false] at hc1
        refine wp_skip ?_
        refine n_then ?_
        refine wp_seq ?_
        refine rg ?_
        refine st (y_lbN hbl4 agg26 rfl) ?_
        refine st (mvS rfl) ?_
        refine sc cl28 (robust_distances_ok N A _ _ t _ _ _ _ _ hN hT hg) rfl ?_
        rintro v32 w28 ⟨D, M, rfl, hD0, hD1, hM, hdist, ho29⟩
        have hz33 := ho29.size
        replace hN := hN.ext ho29
        replace hT := hT.ext ho29
        replace hE := hE.step ho29 (.inl (Nat.le_refl _))
        replace hbl4 := hbl4.ext ho29
        refine st (mvI rfl) ?_
        refine st (y_mi hM sl54 rfl rfl (by omega) (by omega)) ?_
        refine st (y_mrow hM na22 rfl (by omega) (by omega)) ?_
        refine st (mvI rfl) ?_
        refine st (y_mri hM sl22 rfl rfl (by omega) (by omega) (by omega) (by omega)) ?_
        refine st (y_mel hM na3 rfl (by omega) (by omega) (by omega) (by omega)) ?_
        refine st (asI rfl) ?_
        refine rg_end ?_
        refine n_then ?_
        refine wp_seq ?_
        refine wp_seq ?_
        refine rg ?_
        refine st (mvI rfl) ?_
        refine st (y_eql rfl rfl) ?_
        refine rg_end ?_
        refine n_then ?_
        refine cnd rfl (fun hc2 => ?_) (fun hc2 => ?_)
        ·
          try simp only [decide_eq_true_eq, decide_eq_false_iff_not, Bool.not_eq_true', Bool.not_eq_false', Bool.and_eq_true, Bool.or_eq_true, Bool.or_eq_false_iff, Bool.cond_true_right, Bool.cond_false_right, Bool.cond_true_left, Bool.cond_false_left, ne_eq, Decidable.not_not, bne_iff_ne, beq_iff_eq, beq_eq_false_iff_ne, Bool.not_true, Bool.not_false] at hc2
          refine wp_seq ?_
          refine rg ?_
          refine st (asI rfl) ?_
          refine st (asB rfl) ?_
          refine st (asI rfl) ?_
          refine rg_end ?_
          refine n_then ?_
          refine wp_ret ?_
          refine r_then (ret3 (v := (.int .i64 _)) (v' := (.bool _)) (v'' := (.int .i64 _)) Try.results14 rfl rfl rfl ?_)
          exact ⟨_, _, _, rfl, by unfold DistRes; rw [if_neg (by simp [hc0]), if_neg (not_not_intro hc1)]; exact ⟨mat M, hdist, rfl, .inl ⟨hc2, rfl, rfl⟩⟩, hE⟩
        ·
          try simp only [decide_eq_true_eq, decide_eq_false_iff_not, Bool.not_eq_true', Bool.not_eq_false', Bool.and_eq_true, Bool.or_eq_true, Bool.or_eq_false_iff, Bool.cond_true_right, Bool.cond_false_right, Bool.cond_true_left, Bool.cond_false_left, ne_eq, Decidable.not_not, bne_iff_ne, beq_iff_eq, beq_eq_false_iff_ne, Bool.not_true, Bool.not_false] at hc2
          refine wp_skip ?_
          refine n_then ?_
          refine wp_seq ?_
          refine rg ?_
          refine st (mvI rfl) ?_
          refine st (asI rfl) ?_
          refine st (asB rfl) ?_
          refine st (asI rfl) ?_
          refine rg_end ?_
          refine n_then ?_
          refine wp_ret ?_
          refine ret3 (v := (.int .i64 _)) (v' := (.bool _)) (v'' := (.int .i64 _)) Try.results14 rfl rfl rfl ?_
          exact ⟨_, _, _, rfl, by unfold DistRes; rw [if_neg (by simp [hc0]), if_neg (not_not_intro hc1)]; exact ⟨mat M, hdist, rfl, .inr ⟨hc2, rfl, rfl⟩⟩, hE⟩

set_option maxRecDepth 100000 in
theorem law22_wide_ok (al : Option Addr) (cl : Nat) (l : List Int) (ll hl : Nat) (w : World) (hL : Ints ll hl w al l) (hn : (l.length : Int) ≤ 9223372036854775807) : Cal Try.prog 11 [.slice al l.length cl] w (fun v w' => ∃ N A, v = netV N A ∧ WideNet N ∧ NetIn w.heap.size w'.heap.size w' N A ∧ Ext w w') := by
  replace hL := Ints.full hL
  have hE : Out 0 0 w w := Out.refl _ _ w
  refine enter Try.func11 rfl Try.ntmps11 rfl ?_
  refine wp_seq ?_
  refine rg ?_
  refine sd (d_allocA zer26 ?_)
  intro b2 w1 hbb2 hs3 ho2 hb2
  have hz4 := ho2.size
  replace hL := hL.ext ho2
  replace hE := hE.step ho2 (.inl (Nat.le_refl _))
  refine rg_end ?_
  refine n_then ?_
  refine wp_seq ?_
  refine rg ?_
  refine st (mvS rfl) ?_
  refine sc cl23 (keep_Network_ok _ _ _ _ _ _ hL hn) rfl ?_
  rintro v9 w5 ⟨N, A, rfl, hsm, hev, hac, hdis, ho6⟩
  have hz10 := ho6.size
  replace hL := hL.ext ho6
  replace hE := hE.step ho6 (.inl (Nat.le_refl _))
  replace hb2 := hb2.ext ho6
  refine sd (d_allocA zer26 ?_)
  intro b3 w11 hbb3 hs13 ho12 hb3
  have hz14 := ho12.size
  replace hL := hL.ext ho12
  replace hE := hE.step ho12 (.inl (Nat.le_refl _))
  replace hb2 := hb2.ext ho12
  replace hev := hev.ext ho12
  replace hac := hac.ext ho12
  refine sd0 (d_stN hb3 rfl rfl sz26 rfl rfl ?_)
  intro w15 hs17 ho16 hb3'
  clear hb3; have hb3 := hb3'; clear hb3'
  have hz18 := ho16.size
  replace hL := hL.out ho16 (by first | omega | (simp only [blk_some, hi1_some] at *; omega))
  replace hE := hE.step ho16 (by first | omega | (simp only [blk_some, hi1_some] at *; omega))
  replace hb2 := hb2.out ho16 (by first | omega | (simp only [blk_some, hi1_some] at *; omega))
  have hrnhev := hev.rng
  replace hev := hev.out ho16 (by first | omega | (simp only [blk_some, hi1_some] at *; omega))
  have hrnhac := hac.rng
  replace hac := hac.out ho16 (by first | omega | (simp only [blk_some, hi1_some] at *; omega))
  refine rg_end ?_
  refine n_then ?_
  refine wp_seq ?_
  refine wp_seq ?_
  refine rg ?_
  refine st (y_fld fld26_2 rfl) ?_
  refine st (y_lb hb3 na24 rfl rfl) ?_
  refine st (y_len Try.underlying24 rfl) ?_
  refine st (mvI rfl) ?_
  refine rg_end ?_
  refine n_then ?_
  refine wp_block ?_
  have hac0 := hac.rng
  have hev0 := hev.rng
  obtain ⟨z0, hz0⟩ : ∃ z, z = w15.heap.size := ⟨_, rfl⟩
  have hal : N.acts.length ≤ 8 := hsm.2.2.2.2.2.1
  refine lp (γ := Nat) [4, 10, 11, 12, 13, 14, 15, 16, 17, 18, 19, 20, 21, 22, 23, 24, 25, 26, 27, 28] (fun k => [(10, .int .i64 (k : Int))]) (fun k w_ => Out (blk A.aa) (hi1 A.aa) w15 w_ ∧ (k : Int) ≤ N.acts.length ∧ Ow 40 encAc 6 w.heap.size z0 w_ A.aa A.ca (((N.acts.take k).map (widen N.p)) ++ N.acts.drop k)) (fun k => N.acts.length - k) 0 ⟨rfl, trivial⟩ ⟨Out.refl _ _ _, by omega, by have h2 := (hac.lower (lo' := w.heap.size) (by omega)).wide (hi' := z0) (by omega); simpa using h2⟩ ?_
  rintro k hav_ w19 ⟨ho20, hk, hac⟩
  have hlp0 := ho20
  have hz21 := ho20.size
  replace hL := hL.out ho20 (by first | omega | (simp only [blk_some, hi1_some] at *; omega))
  replace hE := hE.step ho20 (by first | omega | (simp only [blk_some, hi1_some] at *; omega))
  replace hb2 := hb2.out ho20 (by first | omega | (simp only [blk_some, hi1_some] at *; omega))
  replace hev := hev.out ho20 (by first | omega | (simp only [blk_some, hi1_some] at *; omega))
  replace hb3 := hb3.out ho20 (by first | omega | (simp only [blk_some, hi1_some] at *; omega))
  refine wp_seq ?_
  refine rg ?_
  refine st (y_lss rfl rfl) ?_
  refine rg_end ?_
  refine n_then ?_
  refine wp_seq ?_
  refine cnd rfl (fun hc0 => ?_) (fun hc0 => ?_)
  ·
    try simp only [decide_eq_true_eq, decide_eq_false_iff_not, Bool.not_eq_true', Bool.not_eq_false', Bool.and_eq_true, Bool.or_eq_true, Bool.or_eq_false_iff, Bool.cond_true_right, Bool.cond_false_right, Bool.cond_true_left, Bool.cond_false_left, ne_eq, Decidable.not_not, bne_iff_ne, beq_iff_eq, beq_eq_false_iff_ne, Bool.not_true, Bool.not_false] at hc0
    have hwl := wide_len (p := N.p) (acts := N.acts) (k := k) (by omega)
    have hwe := wide_el (p := N.p) (acts := N.acts) (k := k) (by omega)
    have hmn := hsm.2.2.2.2.2.2 _ (el_mem (l := N.acts) (i := k) (by omega) hc0)
    have hp1 := hsm.2.1
    have hp2 := hsm.2.2.1
    refine wp_skip ?_
    refine n_then ?_
    refine wp_seq ?_
    refine wp_block ?_
    refine wp_seq ?_
    refine rg ?_
    refine st (mvI rfl) ?_
    refine st (asI rfl) ?_
    refine rg_end ?_
    refine n_then ?_
    refine rgD 13 (fun w_ => Ext w19 w_) (fun i => false) mixed (by kernel_rfl) ?_
    intro w22 ho23 hs24
    refine ⟨ho23, ?_⟩
    have hx25 := ho23
    refine tn rfl (fun _ hG => y_fld fld26_2 rfl) ?_
    refine tn rfl (fun _ hG => y_lb (hb3.ext hG) na24 rfl rfl) ?_
    refine tn rfl (fun _ hG => mvI rfl) ?_
    refine tn rfl (fun _ hG => y_fld fld26_2 rfl) ?_
    refine tn rfl (fun _ hG => y_lb (hb3.ext hG) na24 rfl rfl) ?_
    refine tn rfl (fun _ hG => mvI rfl) ?_
    refine tn rfl (fun _ hG => y_ix (hac.ext hG).sl sl24 rfl (hwl.symm) rfl (by omega) (by rw [hwl]; omega)) ?_
    refine tn rfl (fun _ hG => y_fld fld40_3 rfl) ?_
    refine tn rfl (fun _ hG => y_lf (hac.ext hG).sl na3 rfl (by omega) (by rw [hwl]; omega) rfl) ?_
    refine tn rfl (fun _ hG => y_fld fld26_0 rfl) ?_
    refine tn rfl (fun _ hG => y_lb (hb3.ext hG) na3 rfl rfl) ?_
    refine tn rfl (fun _ hG => y_add rfl rfl (by rw [hwe]; omega)) ?_
    refine tn rfl (fun _ hG => y_sub rfl rfl (by rw [hwe]; omega)) ?_
    refine t_end ?_
    have hz26 := hx25.size
    replace hL := hL.ext hx25
    replace hE := hE.step hx25 (.inl (Nat.le_refl _))
    replace hb2 := hb2.ext hx25
    replace hev := hev.ext hx25
    replace hb3 := hb3.ext hx25
    replace hac := hac.ext hx25
    replace hlp0 := hlp0.step hx25 (.inl (Nat.le_refl _))
    refine st (y_ix hac.sl sl24 rfl (hwl.symm) rfl (by omega) (by rw [hwl]; omega)) ?_
    refine st (y_fld fld40_4 rfl) ?_
    refine sd0 (d_se (j := 4) (e' := widen N.p (el N.acts (k : Int))) hac sz3 rfl rfl rfl (by omega) (by rw [hwl]; omega) (Nat.le_of_ble_eq_true rfl) (by rw [hwe]; rfl) ?_)
    intro w27 hs29 ho28 hac'
    have hrhac := hac.rng
    clear hac; have hac := hac'; clear hac'
    have hz30 := ho28.size
    replace hL := hL.out ho28 (by first | omega | (simp only [blk_some, hi1_some] at *; omega))
    replace hE := hE.step ho28 (by first | omega | (simp only [blk_some, hi1_some] at *; omega))
    replace hb2 := hb2.out ho28 (by first | omega | (simp only [blk_some, hi1_some] at *; omega))
    replace hev := hev.out ho28 (by first | omega | (simp only [blk_some, hi1_some] at *; omega))
    replace hb3 := hb3.out ho28 (by first | omega | (simp only [blk_some, hi1_some] at *; omega))
    replace hlp0 := hlp0.step ho28 (by first | omega | (simp only [blk_some, hi1_some] at *; omega))
    simp only [Int.toNat_natCast] at hac
    rw [wide_set (by omega)] at hac
    refine rg_end ?_
    refine n_blk ?_
    refine n_then ?_
    refine rg ?_
    refine st (y_add rfl rfl (by omega)) ?_
    refine st (mvI rfl) ?_
    refine rg_end ?_
    exact n_then ⟨k + 1, _, rfl, same_lk rfl (same_h0), ⟨rfl, trivial⟩, ⟨hlp0, by omega, hac⟩, by first | omega | (dsimp only; omega)⟩
  ·
    try simp only [decide_eq_true_eq, decide_eq_false_iff_not, Bool.not_eq_true', Bool.not_eq_false', Bool.and_eq_true, Bool.or_eq_true, Bool.or_eq_false_iff, Bool.cond_true_right, Bool.cond_false_right, Bool.cond_true_left, Bool.cond_false_left, ne_eq, Decidable.not_not, bne_iff_ne, beq_iff_eq, beq_eq_false_iff_ne, Bool.not_true, Bool.not_false] at hc0
    have hkn : k = N.acts.length := by omega
    subst hkn
    rw [List.take_of_length_le (Nat.le_refl _), List.drop_of_length_le (Nat.le_refl _), List.append_nil] at hac
    refine wp_exit ?_
    refine e_then (e_then (e_blk (?_)))
    refine n_then ?_
    refine wp_seq ?_
    refine rg ?_
    refine st (y_lbN hb3 agg26 rfl) ?_
    refine sd0 (d_stN hb2 rfl rfl sz26 rfl rfl ?_)
    intro w31 hs33 ho32 hb2'
    clear hb2; have hb2 := hb2'; clear hb2'
    have hz34 := ho32.size
    replace hL := hL.out ho32 (by first | omega | (simp only [blk_some, hi1_some] at *; omega))
    replace hE := hE.step ho32 (by first | omega | (simp only [blk_some, hi1_some] at *; omega))
    replace hev := hev.out ho32 (by first | omega | (simp only [blk_some, hi1_some] at *; omega))
    replace hb3 := hb3.out ho32 (by first | omega | (simp only [blk_some, hi1_some] at *; omega))
    have hrnhac := hac.rng
    replace hac := hac.out ho32 (by first | omega | (simp only [blk_some, hi1_some] at *; omega))
    refine rg_end ?_
    refine n_then ?_
    refine wp_ret ?_
    refine retC Try.results11 hb2 agg26 rfl ?_
    exact ⟨⟨N.p, N.evs, N.acts.map (widen N.p)⟩, A, by simp [netV], wide_net hsm, ⟨(hev.sl).wide (by omega) (by omega), (hac.sl).wide (by omega) (by omega)⟩, hE⟩
end Go.Proofs.Ytggaekjnpbicnaa
