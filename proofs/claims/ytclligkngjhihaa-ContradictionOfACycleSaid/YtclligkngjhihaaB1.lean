/-
  Walks of the functions, printed by a program out of the code and the loops' relations.
-/
import Derived.Test.YtclligkngjhihaaWkD
import Derived.Test.YtclligkngjhihaaProg
import Derived.KernelRfl
import Derived.Test.YtclligkngjhihaaBase
import Derived.Test.YtclligkngjhihaaA1
import Derived.Test.YtclligkngjhihaaA4
namespace Go.Proofs.Ytclligkngjhihaa
open Go.Wk Go.RowKit
set_option linter.unusedVariables false
set_option linter.unusedSimpArgs false
theorem cl39 : Callable Try.prog 39 := ⟨Try.call39⟩
theorem cl40 : Callable Try.prog 40 := ⟨Try.call40⟩
theorem cl45 : Callable Try.prog 45 := ⟨Try.call45⟩
theorem cl64 : Callable Try.prog 64 := ⟨Try.call64⟩
theorem cl65 : Callable Try.prog 65 := ⟨Try.call65⟩
theorem cl74 : Callable Try.prog 74 := ⟨Try.call74⟩

set_option maxRecDepth 100000 in
theorem ref11_in_ok (n lo hi : Int) (w : World) : Cal Try.prog 65 [.int .i64 n, .int .i64 lo, .int .i64 hi] w (fun v w' => v = .bool (decide (lo ≤ n ∧ n ≤ hi)) ∧ Ext w w') := by
 have hE : Out 0 0 w w := Out.refl _ _ w
 refine enter Try.func65 rfl Try.ntmps65 rfl ?_
 refine wp_seq ?_
 refine rg ?_
 refine st (asB rfl) ?_
 refine rg_end ?_
 refine n_then ?_
 refine wp_seq ?_
 refine rg ?_
 refine st (mvI rfl) ?_
 refine st (mvI rfl) ?_
 refine st (y_geq rfl rfl) ?_
 refine st (mvB rfl) ?_
 refine gspL 10 rfl (fun hg1 => ?_) (fun hg1 => ?_)
 ·
  have hg1n := hg1; try simp only [nm] at hg1n
  refine stg rfl rfl hg1 (mvI rfl) ?_
  refine stg rfl rfl hg1 (mvI rfl) ?_
  refine stg rfl rfl hg1 (y_leq rfl rfl) ?_
  refine st (y_pickT rfl hg1 (v := .bool _) rfl) ?_
  refine st (asB rfl) ?_
  refine rg_end ?_
  refine n_then ?_
  refine wp_ret ?_
  refine ret1 (v := (.bool _)) Try.results65 rfl ?_
  exact ⟨vb (by simp only [decide_eq_true_eq, decide_eq_false_iff_not, Bool.not_eq_true', Bool.not_eq_eq_eq_not, Bool.not_true, Bool.false_eq_true, false_iff, true_iff, iff_true, iff_false]; omega), hE⟩
 ·
  have hg1n := hg1; try simp only [nm] at hg1n
  refine sts rfl rfl hg1 ?_
  refine sts rfl rfl hg1 ?_
  refine sts rfl rfl hg1 ?_
  refine st (y_pickF rfl hg1 (v := .bool _) rfl) ?_
  refine st (asB rfl) ?_
  refine rg_end ?_
  refine n_then ?_
  refine wp_ret ?_
  refine ret1 (v := (.bool _)) Try.results65 rfl ?_
  exact ⟨vb (by simp only [decide_eq_true_eq, decide_eq_false_iff_not, Bool.not_eq_true', Bool.not_eq_eq_eq_not, Bool.not_true, Bool.false_eq_true, false_iff, true_iff, iff_true, iff_false]; omega), hE⟩

set_option maxRecDepth 100000 in
theorem ref1_Mod_ok (a b : Int) (w : World) (ha : -9223372036854775808 ≤ a ∧ a ≤ 9223372036854775807) (hb : 1 ≤ b) (hb2 : b ≤ 9223372036854775807) : Cal Try.prog 74 [.int .i64 a, .int .i64 b] w (fun v w' => v = .int .i64 (a % b) ∧ Ext w w') := by
 have hm := tmod_fix a b hb
 have h3 := Int.tmod_lt_of_pos a (show 0 < b by omega)
 have h4 := Int.lt_tmod_of_pos a (show 0 < b by omega)
 have hE : Out 0 0 w w := Out.refl _ _ w
 refine enter Try.func74 rfl Try.ntmps74 rfl ?_
 refine wp_seq ?_
 refine rg ?_
 refine st (asI rfl) ?_
 refine rg_end ?_
 refine n_then ?_
 refine wp_seq ?_
 refine wp_seq ?_
 refine rg ?_
 refine st (mvI rfl) ?_
 refine st (y_lss rfl rfl) ?_
 refine rg_end ?_
 refine n_then ?_
 refine cnd rfl (fun hc0 => ?_) (fun hc0 => ?_)
 ·
  try simp only [nm] at hc0
  exfalso; omega
 ·
  try simp only [nm] at hc0
  refine wp_skip ?_
  refine n_then ?_
  refine wp_seq ?_
  refine rg ?_
  refine st (mvI rfl) ?_
  refine st (mvI rfl) ?_
  refine st (y_rem rfl rfl (by omega)) ?_
  refine st (asI rfl) ?_
  refine rg_end ?_
  refine n_then ?_
  refine wp_seq ?_
  refine wp_seq ?_
  refine rg ?_
  refine st (mvI rfl) ?_
  refine st (y_lss rfl rfl) ?_
  refine rg_end ?_
  refine n_then ?_
  refine cnd rfl (fun hc1 => ?_) (fun hc1 => ?_)
  ·
   try simp only [nm] at hc1
   rw [if_pos hc1] at hm
   refine rg ?_
   refine st (mvI rfl) ?_
   refine st (mvI rfl) ?_
   refine st (y_add rfl rfl (by omega)) ?_
   refine st (asI rfl) ?_
   refine rg_end ?_
   refine n_then ?_
   refine wp_seq ?_
   refine rg ?_
   refine st (mvI rfl) ?_
   refine st (asI rfl) ?_
   refine rg_end ?_
   refine n_then ?_
   refine wp_ret ?_
   refine ret1 (v := (.int .i64 _)) Try.results74 rfl ?_
   exact ⟨by rw [← hm], hE⟩
  ·
   try simp only [nm] at hc1
   rw [if_neg (by omega)] at hm
   refine wp_skip ?_
   refine n_then ?_
   refine wp_seq ?_
   refine rg ?_
   refine st (mvI rfl) ?_
   refine st (asI rfl) ?_
   refine rg_end ?_
   refine n_then ?_
   refine wp_ret ?_
   refine ret1 (v := (.int .i64 _)) Try.results74 rfl ?_
   exact ⟨by rw [← hm], hE⟩

set_option maxRecDepth 100000 in
theorem ref11_Check_ok (N : Net) (A : NetA) (lo hi : Nat) (w : World) (hN : NetIn lo hi w N A)  : Cal Try.prog 45 [netV N A] w (fun v w' => v = .bool (netOk N) ∧ Ext w w') := by
 replace hN := hN.full
 have hE : Out 0 0 w w := Out.refl _ _ w
 refine enter Try.func45 rfl Try.ntmps45 rfl ?_
 refine wp_seq ?_
 refine rg ?_
 refine sd (d_boxA rfl ?_)
 intro bl4 w1 hbbl4 hs3 ho2 hbl4
 have hz5 := ho2.size
 replace hN := hN.ext ho2
 replace hE := hE.step ho2 (.inl (Nat.le_refl _))
 refine st (asB rfl) ?_
 refine rg_end ?_
 refine n_then ?_
 refine wp_seq ?_
 refine cut (γ := Unit) [5, 6, 7, 8, 9, 10, 11, 12, 13, 14, 15, 16, 17, 18, 19, 20] (fun _ => [(20, .bool (!hdrOk N))]) (fun _ w_ => Ext w1 w_ ∧ True) ?_ ?_
 ·
  have hcut := Out.refl 0 0 w1
  refine rg ?_
  refine st (y_fld fld26_0 rfl) ?_
  refine st (y_lb hbl4 na3 rfl rfl) ?_
  refine sc cl65 (ref11_in_ok _ _ _ _) rfl ?_
  rintro v10 w6 ⟨rfl, ho7⟩
  have hz11 := ho7.size
  replace hN := hN.ext ho7
  replace hE := hE.step ho7 (.inl (Nat.le_refl _))
  replace hbl4 := hbl4.ext ho7
  replace hcut := hcut.step ho7 (.inl (Nat.le_refl _))
  refine st (y_not rfl) ?_
  refine st (mvB rfl) ?_
  refine gspL 9 rfl (fun hg12 => ?_) (fun hg12 => ?_)
  ·
   have hg12n := hg12; try simp only [nm] at hg12n
   refine sts rfl rfl hg12 ?_
   refine sts rfl rfl hg12 ?_
   refine sts rfl rfl hg12 ?_
   refine sts rfl rfl hg12 ?_
   refine st (y_pickT rfl hg12 (v := .bool _) rfl) ?_
   refine st (mvB rfl) ?_
   refine sts rfl rfl rfl ?_
   refine sts rfl rfl rfl ?_
   refine sts rfl rfl rfl ?_
   refine sts rfl rfl rfl ?_
   refine st (y_pickT rfl rfl (v := .bool _) rfl) ?_
   refine rg_end ?_
   exact n_then ⟨(), _, rfl, same_lk rfl (same_rfl), ⟨vb (by simp only [hdrOk, decide_eq_true_eq, decide_eq_false_iff_not, Bool.not_eq_true', Bool.not_eq_eq_eq_not, Bool.not_true, Bool.false_eq_true, false_iff, true_iff, iff_true, iff_false]; omega), trivial⟩, ⟨hcut, trivial⟩⟩
  ·
   have hg12n := hg12; try simp only [nm] at hg12n
   refine stg rfl rfl hg12 (y_fld fld26_1 rfl) ?_
   refine stg rfl rfl hg12 (y_lb hbl4 na23 rfl rfl) ?_
   refine stg rfl rfl hg12 (y_len Try.underlying23 rfl) ?_
   refine stg rfl rfl hg12 (y_gtr rfl rfl) ?_
   refine st (y_pickF rfl hg12 (v := .bool _) rfl) ?_
   refine st (mvB rfl) ?_
   refine gspL 15 rfl (fun hg13 => ?_) (fun hg13 => ?_)
   ·
    have hg13n := hg13; try simp only [nm] at hg13n
    refine sts rfl rfl hg13 ?_
    refine sts rfl rfl hg13 ?_
    refine sts rfl rfl hg13 ?_
    refine sts rfl rfl hg13 ?_
    refine st (y_pickT rfl hg13 (v := .bool _) rfl) ?_
    refine rg_end ?_
    exact n_then ⟨(), _, rfl, same_lk rfl (same_rfl), ⟨vb (by simp only [hdrOk, decide_eq_true_eq, decide_eq_false_iff_not, Bool.not_eq_true', Bool.not_eq_eq_eq_not, Bool.not_true, Bool.false_eq_true, false_iff, true_iff, iff_true, iff_false]; omega), trivial⟩, ⟨hcut, trivial⟩⟩
   ·
    have hg13n := hg13; try simp only [nm] at hg13n
    refine stg rfl rfl hg13 (y_fld fld26_2 rfl) ?_
    refine stg rfl rfl hg13 (y_lb hbl4 na24 rfl rfl) ?_
    refine stg rfl rfl hg13 (y_len Try.underlying24 rfl) ?_
    refine stg rfl rfl hg13 (y_gtr rfl rfl) ?_
    refine st (y_pickF rfl hg13 (v := .bool _) rfl) ?_
    refine rg_end ?_
    exact n_then ⟨(), _, rfl, same_lk rfl (same_rfl), ⟨vb (by simp only [hdrOk, decide_eq_true_eq, decide_eq_false_iff_not, Bool.not_eq_true', Bool.not_eq_eq_eq_not, Bool.not_true, Bool.false_eq_true, false_iff, true_iff, iff_true, iff_false]; omega), trivial⟩, ⟨hcut, trivial⟩⟩
 ·
  rintro _ hav_ w14 ⟨ho15, _⟩
  have hz16 := ho15.size
  replace hN := hN.ext ho15
  replace hE := hE.step ho15 (.inl (Nat.le_refl _))
  replace hbl4 := hbl4.ext ho15
  refine cnd rfl (fun hc0 => ?_) (fun hc0 => ?_)
  ·
   try simp only [nm] at hc0
   have hf : netOk N = false := by simp only [netOk, hc0, Bool.false_and]
   refine wp_seq ?_
   refine rg ?_
   refine st (asB rfl) ?_
   refine rg_end ?_
   refine n_then ?_
   refine wp_ret ?_
   refine r_then (ret1 (v := (.bool _)) Try.results45 rfl ?_)
   exact ⟨by rw [hf], hE⟩
  ·
   try simp only [nm] at hc0
   have hlen : (N.acts.length : Int) ≤ 512 ∧ (N.evs.length : Int) ≤ 48 ∧ 2 ≤ N.p ∧ N.p ≤ 7200 := by simp only [hdrOk, decide_eq_true_eq] at hc0; omega
   refine wp_skip ?_
   refine n_then ?_
   refine wp_seq ?_
   refine wp_seq ?_
   refine rg ?_
   refine st (asI rfl) ?_
   refine rg_end ?_
   refine n_then ?_
   refine wp_block ?_
   refine lp (γ := Nat) [2, 3, 4, 21, 22, 23, 24, 25, 26, 27, 28, 29, 30, 31, 32, 33, 34, 35, 36, 37, 38, 39, 40, 41, 42, 43, 44, 45, 46, 47, 48, 49, 50, 51, 52, 53, 54, 55, 56, 57, 58, 59, 60, 61, 62, 63, 64, 65, 66, 67, 68, 69, 70, 71, 72, 73, 74, 75, 76, 77, 78, 79, 80, 81, 82, 83, 84, 85, 86, 87, 88, 89, 90] (fun k => [(3, .int .i64 (k : Int))]) (fun k w_ => Ext w14 w_ ∧ (k : Int) ≤ N.acts.length ∧ (N.acts.take k).all (acOk N) = true) (fun k => N.acts.length - k) 0 ⟨rfl, trivial⟩ ⟨Out.refl _ _ _, by omega, by simp⟩ ?_
   rintro k hav_ w17 ⟨ho18, hk, hall⟩
   have hlp0 := ho18
   have hz19 := ho18.size
   replace hN := hN.ext ho18
   replace hE := hE.step ho18 (.inl (Nat.le_refl _))
   replace hbl4 := hbl4.ext ho18
   refine wp_seq ?_
   refine wp_seq ?_
   refine rg ?_
   refine st (mvI rfl) ?_
   refine st (y_fld fld26_2 rfl) ?_
   refine st (y_lb hbl4 na24 rfl rfl) ?_
   refine st (y_len Try.underlying24 rfl) ?_
   refine st (y_lss rfl rfl) ?_
   refine rg_end ?_
   refine n_then ?_
   refine cnd rfl (fun hc1 => ?_) (fun hc1 => ?_)
   ·
    try simp only [nm] at hc1
    refine wp_skip ?_
    refine n_then ?_
    refine wp_seq ?_
    refine wp_block ?_
    refine wp_seq ?_
    refine rg ?_
    refine st (y_fld fld26_2 rfl) ?_
    refine st (y_lb hbl4 na24 rfl rfl) ?_
    refine st (mvI rfl) ?_
    refine st (y_ix hN.a sl24 rfl (rfl) rfl (by omega) (by omega)) ?_
    refine st (y_lw hN.a agg36 rfl (by omega) (by omega)) ?_
    refine sd (d_allocA zer36 ?_)
    intro bl23 w20 hbbl23 hs22 ho21 hbl23
    have hz24 := ho21.size
    replace hN := hN.ext ho21
    replace hE := hE.step ho21 (.inl (Nat.le_refl _))
    replace hbl4 := hbl4.ext ho21
    replace hlp0 := hlp0.step ho21 (.inl (Nat.le_refl _))
    refine sd0 (d_stN hbl23 rfl rfl sz36 rfl rfl ?_)
    intro w25 hs27 ho26 hbl23'
    clear hbl23; have hbl23 := hbl23'; clear hbl23'
    have hz28 := ho26.size
    replace hN := hN.out ho26 (by first | omega | (simp only [blk_some, hi1_some] at *; omega))
    replace hE := hE.step ho26 (by first | omega | (simp only [blk_some, hi1_some] at *; omega))
    replace hbl4 := hbl4.out ho26 (by first | omega | (simp only [blk_some, hi1_some] at *; omega))
    replace hlp0 := hlp0.step ho26 (by first | omega | (simp only [blk_some, hi1_some] at *; omega))
    refine rg_end ?_
    refine n_then ?_
    refine cut (γ := Unit) [33, 34, 35, 36, 37, 38, 39, 40, 41, 42, 43, 44, 45, 46, 47, 48, 49, 50, 51, 52, 53, 54, 55, 56, 57, 58, 59, 60, 61, 62, 63, 64, 65, 66, 67, 68, 69, 70, 71, 72, 73, 74, 75, 76, 77, 78, 79, 80, 81, 82, 83, 84, 85, 86, 87, 88, 89, 90] (fun _ => [(90, .bool (!acOk N (el N.acts k)))]) (fun _ w_ => Ext w25 w_ ∧ True) ?_ ?_
    ·
     have hcut := Out.refl 0 0 w25
     refine rg ?_
     refine st (y_fld fld36_1 rfl) ?_
     refine st (y_lb hbl23 na3 rfl rfl) ?_
     refine st (y_fld fld26_1 rfl) ?_
     refine st (y_lb hbl4 na23 rfl rfl) ?_
     refine st (y_len Try.underlying23 rfl) ?_
     refine st (y_sub rfl rfl (by omega)) ?_
     refine sc cl65 (ref11_in_ok _ _ _ _) rfl ?_
     rintro v33 w29 ⟨rfl, ho30⟩
     have hz34 := ho30.size
     replace hN := hN.ext ho30
     replace hE := hE.step ho30 (.inl (Nat.le_refl _))
     replace hbl4 := hbl4.ext ho30
     replace hlp0 := hlp0.step ho30 (.inl (Nat.le_refl _))
     replace hbl23 := hbl23.ext ho30
     replace hcut := hcut.step ho30 (.inl (Nat.le_refl _))
     refine st (y_not rfl) ?_
     refine st (mvB rfl) ?_
     refine gspL 41 rfl (fun hg35 => ?_) (fun hg35 => ?_)
     ·
      have hg35n := hg35; try simp only [nm] at hg35n
      refine sts rfl rfl hg35 ?_
      refine sts rfl rfl hg35 ?_
      refine sts rfl rfl hg35 ?_
      refine sts rfl rfl hg35 ?_
      refine sts rfl rfl hg35 ?_
      refine sts rfl rfl hg35 ?_
      refine sts rfl rfl hg35 ?_
      refine sts rfl rfl hg35 ?_
      refine st (y_pickT rfl hg35 (v := .bool _) rfl) ?_
      refine st (mvB rfl) ?_
      refine sts rfl rfl rfl ?_
      refine sts rfl rfl rfl ?_
      refine sts rfl rfl rfl ?_
      refine sts rfl rfl rfl ?_
      refine sts rfl rfl rfl ?_
      refine st (y_pickT rfl rfl (v := .bool _) rfl) ?_
      refine st (mvB rfl) ?_
      refine sts rfl rfl rfl ?_
      refine sts rfl rfl rfl ?_
      refine sts rfl rfl rfl ?_
      refine st (y_pickT rfl rfl (v := .bool _) rfl) ?_
      refine st (mvB rfl) ?_
      refine sts rfl rfl rfl ?_
      refine sts rfl rfl rfl ?_
      refine sts rfl rfl rfl ?_
      refine st (y_pickT rfl rfl (v := .bool _) rfl) ?_
      refine st (mvB rfl) ?_
      refine sts rfl rfl rfl ?_
      refine sts rfl rfl rfl ?_
      refine sts rfl rfl rfl ?_
      refine sts rfl rfl rfl ?_
      refine sts rfl rfl rfl ?_
      refine st (y_pickT rfl rfl (v := .bool _) rfl) ?_
      refine st (mvB rfl) ?_
      refine sts rfl rfl rfl ?_
      refine sts rfl rfl rfl ?_
      refine sts rfl rfl rfl ?_
      refine sts rfl rfl rfl ?_
      refine sts rfl rfl rfl ?_
      refine sts rfl rfl rfl ?_
      refine sts rfl rfl rfl ?_
      refine sts rfl rfl rfl ?_
      refine st (y_pickT rfl rfl (v := .bool _) rfl) ?_
      refine st (mvB rfl) ?_
      refine sts rfl rfl rfl ?_
      refine sts rfl rfl rfl ?_
      refine sts rfl rfl rfl ?_
      refine sts rfl rfl rfl ?_
      refine st (y_pickT rfl rfl (v := .bool _) rfl) ?_
      refine rg_end ?_
      exact n_then ⟨(), _, rfl, same_lk rfl (same_rfl), ⟨vb (by simp only [acOk, acOk1, acOk2, acOk3, Bool.and_eq_true, Bool.and_eq_false_iff, decide_eq_true_eq, decide_eq_false_iff_not, Bool.not_eq_true', Bool.not_eq_eq_eq_not, Bool.not_true, Bool.false_eq_true, false_iff, true_iff, iff_true, iff_false]; omega), trivial⟩, ⟨hcut, trivial⟩⟩
     ·
      have hg35n := hg35; try simp only [nm] at hg35n
      refine stg rfl rfl hg35 (y_fld fld36_2 rfl) ?_
      refine stg rfl rfl hg35 (y_lb hbl23 na3 rfl rfl) ?_
      refine stg rfl rfl hg35 (y_fld fld26_1 rfl) ?_
      refine stg rfl rfl hg35 (y_lb hbl4 na23 rfl rfl) ?_
      refine stg rfl rfl hg35 (y_len Try.underlying23 rfl) ?_
      refine stg rfl rfl hg35 (y_sub rfl rfl (by omega)) ?_
      refine scg rfl rfl hg35 cl65 (ref11_in_ok _ _ _ _) rfl ?_
      rintro v40 w36 ⟨rfl, ho37⟩
      have hz41 := ho37.size
      replace hN := hN.ext ho37
      replace hE := hE.step ho37 (.inl (Nat.le_refl _))
      replace hbl4 := hbl4.ext ho37
      replace hlp0 := hlp0.step ho37 (.inl (Nat.le_refl _))
      replace hbl23 := hbl23.ext ho37
      replace hcut := hcut.step ho37 (.inl (Nat.le_refl _))
      refine stg rfl rfl hg35 (y_not rfl) ?_
      refine st (y_pickF rfl hg35 (v := .bool _) rfl) ?_
      refine st (mvB rfl) ?_
      refine gspL 51 rfl (fun hg42 => ?_) (fun hg42 => ?_)
      ·
       have hg42n := hg42; try simp only [nm] at hg42n
       refine sts rfl rfl hg42 ?_
       refine sts rfl rfl hg42 ?_
       refine sts rfl rfl hg42 ?_
       refine sts rfl rfl hg42 ?_
       refine sts rfl rfl hg42 ?_
       refine st (y_pickT rfl hg42 (v := .bool _) rfl) ?_
       refine st (mvB rfl) ?_
       refine sts rfl rfl rfl ?_
       refine sts rfl rfl rfl ?_
       refine sts rfl rfl rfl ?_
       refine st (y_pickT rfl rfl (v := .bool _) rfl) ?_
       refine st (mvB rfl) ?_
       refine sts rfl rfl rfl ?_
       refine sts rfl rfl rfl ?_
       refine sts rfl rfl rfl ?_
       refine st (y_pickT rfl rfl (v := .bool _) rfl) ?_
       refine st (mvB rfl) ?_
       refine sts rfl rfl rfl ?_
       refine sts rfl rfl rfl ?_
       refine sts rfl rfl rfl ?_
       refine sts rfl rfl rfl ?_
       refine sts rfl rfl rfl ?_
       refine st (y_pickT rfl rfl (v := .bool _) rfl) ?_
       refine st (mvB rfl) ?_
       refine sts rfl rfl rfl ?_
       refine sts rfl rfl rfl ?_
       refine sts rfl rfl rfl ?_
       refine sts rfl rfl rfl ?_
       refine sts rfl rfl rfl ?_
       refine sts rfl rfl rfl ?_
       refine sts rfl rfl rfl ?_
       refine sts rfl rfl rfl ?_
       refine st (y_pickT rfl rfl (v := .bool _) rfl) ?_
       refine st (mvB rfl) ?_
       refine sts rfl rfl rfl ?_
       refine sts rfl rfl rfl ?_
       refine sts rfl rfl rfl ?_
       refine sts rfl rfl rfl ?_
       refine st (y_pickT rfl rfl (v := .bool _) rfl) ?_
       refine rg_end ?_
       exact n_then ⟨(), _, rfl, same_lk rfl (same_rfl), ⟨vb (by simp only [acOk, acOk1, acOk2, acOk3, Bool.and_eq_true, Bool.and_eq_false_iff, decide_eq_true_eq, decide_eq_false_iff_not, Bool.not_eq_true', Bool.not_eq_eq_eq_not, Bool.not_true, Bool.false_eq_true, false_iff, true_iff, iff_true, iff_false]; omega), trivial⟩, ⟨hcut, trivial⟩⟩
      ·
       have hg42n := hg42; try simp only [nm] at hg42n
       refine stg rfl rfl hg42 (y_fld fld36_1 rfl) ?_
       refine stg rfl rfl hg42 (y_lb hbl23 na3 rfl rfl) ?_
       refine stg rfl rfl hg42 (y_fld fld36_2 rfl) ?_
       refine stg rfl rfl hg42 (y_lb hbl23 na3 rfl rfl) ?_
       refine stg rfl rfl hg42 (y_eql rfl rfl) ?_
       refine st (y_pickF rfl hg42 (v := .bool _) rfl) ?_
       refine st (mvB rfl) ?_
       refine gspL 58 rfl (fun hg43 => ?_) (fun hg43 => ?_)
       ·
        have hg43n := hg43; try simp only [nm] at hg43n
        refine sts rfl rfl hg43 ?_
        refine sts rfl rfl hg43 ?_
        refine sts rfl rfl hg43 ?_
        refine st (y_pickT rfl hg43 (v := .bool _) rfl) ?_
        refine st (mvB rfl) ?_
        refine sts rfl rfl rfl ?_
        refine sts rfl rfl rfl ?_
        refine sts rfl rfl rfl ?_
        refine st (y_pickT rfl rfl (v := .bool _) rfl) ?_
        refine st (mvB rfl) ?_
        refine sts rfl rfl rfl ?_
        refine sts rfl rfl rfl ?_
        refine sts rfl rfl rfl ?_
        refine sts rfl rfl rfl ?_
        refine sts rfl rfl rfl ?_
        refine st (y_pickT rfl rfl (v := .bool _) rfl) ?_
        refine st (mvB rfl) ?_
        refine sts rfl rfl rfl ?_
        refine sts rfl rfl rfl ?_
        refine sts rfl rfl rfl ?_
        refine sts rfl rfl rfl ?_
        refine sts rfl rfl rfl ?_
        refine sts rfl rfl rfl ?_
        refine sts rfl rfl rfl ?_
        refine sts rfl rfl rfl ?_
        refine st (y_pickT rfl rfl (v := .bool _) rfl) ?_
        refine st (mvB rfl) ?_
        refine sts rfl rfl rfl ?_
        refine sts rfl rfl rfl ?_
        refine sts rfl rfl rfl ?_
        refine sts rfl rfl rfl ?_
        refine st (y_pickT rfl rfl (v := .bool _) rfl) ?_
        refine rg_end ?_
        exact n_then ⟨(), _, rfl, same_lk rfl (same_rfl), ⟨vb (by simp only [acOk, acOk1, acOk2, acOk3, Bool.and_eq_true, Bool.and_eq_false_iff, decide_eq_true_eq, decide_eq_false_iff_not, Bool.not_eq_true', Bool.not_eq_eq_eq_not, Bool.not_true, Bool.false_eq_true, false_iff, true_iff, iff_true, iff_false]; omega), trivial⟩, ⟨hcut, trivial⟩⟩
       ·
        have hg43n := hg43; try simp only [nm] at hg43n
        refine stg rfl rfl hg43 (y_fld fld36_3 rfl) ?_
        refine stg rfl rfl hg43 (y_lb hbl23 na3 rfl rfl) ?_
        refine stg rfl rfl hg43 (y_lss rfl rfl) ?_
        refine st (y_pickF rfl hg43 (v := .bool _) rfl) ?_
        refine st (mvB rfl) ?_
        refine gspL 63 rfl (fun hg44 => ?_) (fun hg44 => ?_)
        ·
         have hg44n := hg44; try simp only [nm] at hg44n
         refine sts rfl rfl hg44 ?_
         refine sts rfl rfl hg44 ?_
         refine sts rfl rfl hg44 ?_
         refine st (y_pickT rfl hg44 (v := .bool _) rfl) ?_
         refine st (mvB rfl) ?_
         refine sts rfl rfl rfl ?_
         refine sts rfl rfl rfl ?_
         refine sts rfl rfl rfl ?_
         refine sts rfl rfl rfl ?_
         refine sts rfl rfl rfl ?_
         refine st (y_pickT rfl rfl (v := .bool _) rfl) ?_
         refine st (mvB rfl) ?_
         refine sts rfl rfl rfl ?_
         refine sts rfl rfl rfl ?_
         refine sts rfl rfl rfl ?_
         refine sts rfl rfl rfl ?_
         refine sts rfl rfl rfl ?_
         refine sts rfl rfl rfl ?_
         refine sts rfl rfl rfl ?_
         refine sts rfl rfl rfl ?_
         refine st (y_pickT rfl rfl (v := .bool _) rfl) ?_
         refine st (mvB rfl) ?_
         refine sts rfl rfl rfl ?_
         refine sts rfl rfl rfl ?_
         refine sts rfl rfl rfl ?_
         refine sts rfl rfl rfl ?_
         refine st (y_pickT rfl rfl (v := .bool _) rfl) ?_
         refine rg_end ?_
         exact n_then ⟨(), _, rfl, same_lk rfl (same_rfl), ⟨vb (by simp only [acOk, acOk1, acOk2, acOk3, Bool.and_eq_true, Bool.and_eq_false_iff, decide_eq_true_eq, decide_eq_false_iff_not, Bool.not_eq_true', Bool.not_eq_eq_eq_not, Bool.not_true, Bool.false_eq_true, false_iff, true_iff, iff_true, iff_false]; omega), trivial⟩, ⟨hcut, trivial⟩⟩
        ·
         have hg44n := hg44; try simp only [nm] at hg44n
         refine stg rfl rfl hg44 (y_fld fld36_4 rfl) ?_
         refine stg rfl rfl hg44 (y_lb hbl23 na3 rfl rfl) ?_
         refine stg rfl rfl hg44 (y_gtr rfl rfl) ?_
         refine st (y_pickF rfl hg44 (v := .bool _) rfl) ?_
         refine st (mvB rfl) ?_
         refine gspL 68 rfl (fun hg45 => ?_) (fun hg45 => ?_)
         ·
          have hg45n := hg45; try simp only [nm] at hg45n
          refine sts rfl rfl hg45 ?_
          refine sts rfl rfl hg45 ?_
          refine sts rfl rfl hg45 ?_
          refine sts rfl rfl hg45 ?_
          refine sts rfl rfl hg45 ?_
          refine st (y_pickT rfl hg45 (v := .bool _) rfl) ?_
          refine st (mvB rfl) ?_
          refine sts rfl rfl rfl ?_
          refine sts rfl rfl rfl ?_
          refine sts rfl rfl rfl ?_
          refine sts rfl rfl rfl ?_
          refine sts rfl rfl rfl ?_
          refine sts rfl rfl rfl ?_
          refine sts rfl rfl rfl ?_
          refine sts rfl rfl rfl ?_
          refine st (y_pickT rfl rfl (v := .bool _) rfl) ?_
          refine st (mvB rfl) ?_
          refine sts rfl rfl rfl ?_
          refine sts rfl rfl rfl ?_
          refine sts rfl rfl rfl ?_
          refine sts rfl rfl rfl ?_
          refine st (y_pickT rfl rfl (v := .bool _) rfl) ?_
          refine rg_end ?_
          exact n_then ⟨(), _, rfl, same_lk rfl (same_rfl), ⟨vb (by simp only [acOk, acOk1, acOk2, acOk3, Bool.and_eq_true, Bool.and_eq_false_iff, decide_eq_true_eq, decide_eq_false_iff_not, Bool.not_eq_true', Bool.not_eq_eq_eq_not, Bool.not_true, Bool.false_eq_true, false_iff, true_iff, iff_true, iff_false]; omega), trivial⟩, ⟨hcut, trivial⟩⟩
         ·
          have hg45n := hg45; try simp only [nm] at hg45n
          refine stg rfl rfl hg45 (y_fld fld36_3 rfl) ?_
          refine stg rfl rfl hg45 (y_lb hbl23 na3 rfl rfl) ?_
          refine stg rfl rfl hg45 (y_fld fld36_4 rfl) ?_
          refine stg rfl rfl hg45 (y_lb hbl23 na3 rfl rfl) ?_
          refine stg rfl rfl hg45 (y_gtr rfl rfl) ?_
          refine st (y_pickF rfl hg45 (v := .bool _) rfl) ?_
          refine st (mvB rfl) ?_
          refine gspL 75 rfl (fun hg46 => ?_) (fun hg46 => ?_)
          ·
           have hg46n := hg46; try simp only [nm] at hg46n
           refine sts rfl rfl hg46 ?_
           refine sts rfl rfl hg46 ?_
           refine sts rfl rfl hg46 ?_
           refine sts rfl rfl hg46 ?_
           refine sts rfl rfl hg46 ?_
           refine sts rfl rfl hg46 ?_
           refine sts rfl rfl hg46 ?_
           refine sts rfl rfl hg46 ?_
           refine st (y_pickT rfl hg46 (v := .bool _) rfl) ?_
           refine st (mvB rfl) ?_
           refine sts rfl rfl rfl ?_
           refine sts rfl rfl rfl ?_
           refine sts rfl rfl rfl ?_
           refine sts rfl rfl rfl ?_
           refine st (y_pickT rfl rfl (v := .bool _) rfl) ?_
           refine rg_end ?_
           exact n_then ⟨(), _, rfl, same_lk rfl (same_rfl), ⟨vb (by simp only [acOk, acOk1, acOk2, acOk3, Bool.and_eq_true, Bool.and_eq_false_iff, decide_eq_true_eq, decide_eq_false_iff_not, Bool.not_eq_true', Bool.not_eq_eq_eq_not, Bool.not_true, Bool.false_eq_true, false_iff, true_iff, iff_true, iff_false]; omega), trivial⟩, ⟨hcut, trivial⟩⟩
          ·
           have hg46n := hg46; try simp only [nm] at hg46n
           refine stg rfl rfl hg46 (y_fld fld36_4 rfl) ?_
           refine stg rfl rfl hg46 (y_lb hbl23 na3 rfl rfl) ?_
           refine stg rfl rfl hg46 (y_fld fld36_3 rfl) ?_
           refine stg rfl rfl hg46 (y_lb hbl23 na3 rfl rfl) ?_
           refine stg rfl rfl hg46 (y_sub rfl rfl (by omega)) ?_
           refine stg rfl rfl hg46 (y_fld fld26_0 rfl) ?_
           refine stg rfl rfl hg46 (y_lb hbl4 na3 rfl rfl) ?_
           refine stg rfl rfl hg46 (y_geq rfl rfl) ?_
           refine st (y_pickF rfl hg46 (v := .bool _) rfl) ?_
           refine st (mvB rfl) ?_
           refine gspL 85 rfl (fun hg47 => ?_) (fun hg47 => ?_)
           ·
            have hg47n := hg47; try simp only [nm] at hg47n
            refine sts rfl rfl hg47 ?_
            refine sts rfl rfl hg47 ?_
            refine sts rfl rfl hg47 ?_
            refine sts rfl rfl hg47 ?_
            refine st (y_pickT rfl hg47 (v := .bool _) rfl) ?_
            refine rg_end ?_
            exact n_then ⟨(), _, rfl, same_lk rfl (same_rfl), ⟨vb (by simp only [acOk, acOk1, acOk2, acOk3, Bool.and_eq_true, Bool.and_eq_false_iff, decide_eq_true_eq, decide_eq_false_iff_not, Bool.not_eq_true', Bool.not_eq_eq_eq_not, Bool.not_true, Bool.false_eq_true, false_iff, true_iff, iff_true, iff_false]; omega), trivial⟩, ⟨hcut, trivial⟩⟩
           ·
            have hg47n := hg47; try simp only [nm] at hg47n
            refine stg rfl rfl hg47 (y_fld fld36_5 rfl) ?_
            refine stg rfl rfl hg47 (y_lb hbl23 na3 rfl rfl) ?_
            refine scg rfl rfl hg47 cl65 (ref11_in_ok _ _ _ _) rfl ?_
            rintro v52 w48 ⟨rfl, ho49⟩
            have hz53 := ho49.size
            replace hN := hN.ext ho49
            replace hE := hE.step ho49 (.inl (Nat.le_refl _))
            replace hbl4 := hbl4.ext ho49
            replace hlp0 := hlp0.step ho49 (.inl (Nat.le_refl _))
            replace hbl23 := hbl23.ext ho49
            replace hcut := hcut.step ho49 (.inl (Nat.le_refl _))
            refine stg rfl rfl hg47 (y_not rfl) ?_
            refine st (y_pickF rfl hg47 (v := .bool _) rfl) ?_
            refine rg_end ?_
            exact n_then ⟨(), _, rfl, same_lk rfl (same_rfl), ⟨vb (by simp only [acOk, acOk1, acOk2, acOk3, Bool.and_eq_true, Bool.and_eq_false_iff, decide_eq_true_eq, decide_eq_false_iff_not, Bool.not_eq_true', Bool.not_eq_eq_eq_not, Bool.not_true, Bool.false_eq_true, false_iff, true_iff, iff_true, iff_false]; omega), trivial⟩, ⟨hcut, trivial⟩⟩
    ·
     rintro _ hav_ w54 ⟨ho55, _⟩
     have hz56 := ho55.size
     replace hN := hN.ext ho55
     replace hE := hE.step ho55 (.inl (Nat.le_refl _))
     replace hbl4 := hbl4.ext ho55
     replace hlp0 := hlp0.step ho55 (.inl (Nat.le_refl _))
     replace hbl23 := hbl23.ext ho55
     refine cnd rfl (fun hc2 => ?_) (fun hc2 => ?_)
     ·
      try simp only [nm] at hc2
      have hf : netOk N = false := by simp only [netOk, all_false hc1 hc2, Bool.and_false]
      refine wp_seq ?_
      refine rg ?_
      refine st (asB rfl) ?_
      refine rg_end ?_
      refine n_then ?_
      refine wp_ret ?_
      refine r_blk (r_then (r_then (r_blk (r_then (ret1 (v := (.bool _)) Try.results45 rfl ?_)))))
      exact ⟨by rw [hf], hE⟩
     ·
      try simp only [nm] at hc2
      refine wp_skip ?_
      refine n_blk ?_
      refine n_then ?_
      refine rg ?_
      refine st (mvI rfl) ?_
      refine st (y_add rfl rfl (by omega)) ?_
      refine st (asI rfl) ?_
      refine rg_end ?_
      exact n_then ⟨k + 1, _, rfl, same_lk rfl (same_hav rfl (same_lk rfl (same_h0))), ⟨rfl, trivial⟩, ⟨hlp0, by omega, take_all_succ hc1 hall hc2⟩, by first | omega | (dsimp only; omega)⟩
   ·
    try simp only [nm] at hc1
    have hf : netOk N = true := by simp only [netOk, hc0, all_take_len hc1 hall, Bool.and_self]
    refine wp_exit ?_
    refine e_then (e_then (e_blk (?_)))
    refine n_then ?_
    refine wp_seq ?_
    refine rg ?_
    refine st (asB rfl) ?_
    refine rg_end ?_
    refine n_then ?_
    refine wp_ret ?_
    refine ret1 (v := (.bool _)) Try.results45 rfl ?_
    exact ⟨by rw [hf], hE⟩

set_option maxRecDepth 100000 in
theorem ref11_Good_ok (N : Net) (A : NetA) (lo hi : Nat) (t : List Int) (at_ : Option Addr) (ct : Nat) (lt ht : Nat) (w : World) (hN : NetIn lo hi w N A) (hT : Ints lt ht w at_ t)  : Cal Try.prog 40 [netV N A, .slice at_ t.length ct] w (fun v w' => v = .bool (goodT N t) ∧ Ext w w') := by
 replace hN := hN.full
 replace hT := Ints.full hT
 have hE : Out 0 0 w w := Out.refl _ _ w
 refine enter Try.func40 rfl Try.ntmps40 rfl ?_
 refine wp_seq ?_
 refine rg ?_
 refine sd (d_boxA rfl ?_)
 intro bl4 w1 hbbl4 hs3 ho2 hbl4
 have hz5 := ho2.size
 replace hN := hN.ext ho2
 replace hT := hT.ext ho2
 replace hE := hE.step ho2 (.inl (Nat.le_refl _))
 refine st (asB rfl) ?_
 refine rg_end ?_
 refine n_then ?_
 refine wp_seq ?_
 refine cut (γ := Unit) [6, 7, 8, 9, 10, 11, 12, 13, 14, 15, 16] (fun _ => [(16, .bool (!(netOk N && decide (t.length = N.evs.length))))]) (fun _ w_ => Ext w1 w_ ∧ True) ?_ ?_
 ·
  have hcut := Out.refl 0 0 w1
  refine rg ?_
  refine st (y_lbN hbl4 agg26 rfl) ?_
  refine sc cl45 (ref11_Check_ok N A _ _ _ hN) rfl ?_
  rintro v10 w6 ⟨rfl, ho7⟩
  have hz11 := ho7.size
  replace hN := hN.ext ho7
  replace hT := hT.ext ho7
  replace hE := hE.step ho7 (.inl (Nat.le_refl _))
  replace hbl4 := hbl4.ext ho7
  replace hcut := hcut.step ho7 (.inl (Nat.le_refl _))
  refine st (y_not rfl) ?_
  refine st (mvB rfl) ?_
  refine gspL 9 rfl (fun hg12 => ?_) (fun hg12 => ?_)
  ·
   have hg12n := hg12; try simp only [nm] at hg12n
   refine sts rfl rfl hg12 ?_
   refine sts rfl rfl hg12 ?_
   refine sts rfl rfl hg12 ?_
   refine sts rfl rfl hg12 ?_
   refine sts rfl rfl hg12 ?_
   refine sts rfl rfl hg12 ?_
   refine st (y_pickT rfl hg12 (v := .bool _) rfl) ?_
   refine rg_end ?_
   exact n_then ⟨(), _, rfl, same_lk rfl (same_rfl), ⟨vb (by first | (simp_all; done) | (simp_all; omega)), trivial⟩, ⟨hcut, trivial⟩⟩
  ·
   have hg12n := hg12; try simp only [nm] at hg12n
   refine stg rfl rfl hg12 (mvS rfl) ?_
   refine stg rfl rfl hg12 (y_len Try.underlying22 rfl) ?_
   refine stg rfl rfl hg12 (y_fld fld26_1 rfl) ?_
   refine stg rfl rfl hg12 (y_lb hbl4 na23 rfl rfl) ?_
   refine stg rfl rfl hg12 (y_len Try.underlying23 rfl) ?_
   refine stg rfl rfl hg12 (y_neq rfl rfl) ?_
   refine st (y_pickF rfl hg12 (v := .bool _) rfl) ?_
   refine rg_end ?_
   exact n_then ⟨(), _, rfl, same_lk rfl (same_rfl), ⟨vb (by first | (simp_all; done) | (simp_all; omega)), trivial⟩, ⟨hcut, trivial⟩⟩
 ·
  rintro _ hav_ w13 ⟨ho14, _⟩
  have hz15 := ho14.size
  replace hN := hN.ext ho14
  replace hT := hT.ext ho14
  replace hE := hE.step ho14 (.inl (Nat.le_refl _))
  replace hbl4 := hbl4.ext ho14
  refine cnd rfl (fun hc0 => ?_) (fun hc0 => ?_)
  ·
   try simp only [nm] at hc0
   have hf : goodT N t = false := by simp only [goodT, hc0, Bool.false_and]
   refine wp_seq ?_
   refine rg ?_
   refine st (asB rfl) ?_
   refine rg_end ?_
   refine n_then ?_
   refine wp_ret ?_
   refine r_then (ret1 (v := (.bool _)) Try.results40 rfl ?_)
   exact ⟨by rw [hf], hE⟩
  ·
   try simp only [nm] at hc0
   have hnk := netOk_iff.1 hc0.1
   have hp2 := hnk.p2
   have hp7 := hnk.p7
   have hlen : (N.evs.length : Int) ≤ 48 ∧ t.length = N.evs.length := ⟨hnk.ev, hc0.2⟩
   refine wp_skip ?_
   refine n_then ?_
   refine wp_seq ?_
   refine wp_seq ?_
   refine rg ?_
   refine st (asI rfl) ?_
   refine rg_end ?_
   refine n_then ?_
   refine wp_block ?_
   refine lp (γ := Nat) [4, 5, 17, 18, 19, 20, 21, 22, 23, 24, 25, 26, 27, 28, 29, 30, 31] (fun k => [(5, .int .i64 (k : Int))]) (fun k w_ => Ext w13 w_ ∧ (k : Int) ≤ t.length ∧ (t.take k).all (fun x => decide (0 ≤ x ∧ x < N.p)) = true) (fun k => t.length - k) 0 ⟨rfl, trivial⟩ ⟨Out.refl _ _ _, by omega, by simp⟩ ?_
   rintro k hav_ w16 ⟨ho17, hk, hall⟩
   have hlp0 := ho17
   have hz18 := ho17.size
   replace hN := hN.ext ho17
   replace hT := hT.ext ho17
   replace hE := hE.step ho17 (.inl (Nat.le_refl _))
   replace hbl4 := hbl4.ext ho17
   refine wp_seq ?_
   refine wp_seq ?_
   refine rg ?_
   refine st (mvI rfl) ?_
   refine st (mvS rfl) ?_
   refine st (y_len Try.underlying22 rfl) ?_
   refine st (y_lss rfl rfl) ?_
   refine rg_end ?_
   refine n_then ?_
   refine cnd rfl (fun hc1 => ?_) (fun hc1 => ?_)
   ·
    try simp only [nm] at hc1
    refine wp_skip ?_
    refine n_then ?_
    refine wp_seq ?_
    refine wp_block ?_
    refine wp_seq ?_
    refine rgD 7 (fun w_ => Ext w16 w_) (fun i => false) mixed (by kernel_rfl) ?_
    intro w19 ho20 hs21
    refine ⟨ho20, ?_⟩
    have hx22 := ho20
    refine tn rfl (fun _ hG => mvS rfl) ?_
    refine tn rfl (fun _ hG => mvI rfl) ?_
    refine tn rfl (fun _ hG => y_ix (hT.ext hG) sl22 rfl (rfl) rfl (by omega) (by omega)) ?_
    refine tn rfl (fun _ hG => y_le (hT.ext hG) na3 rfl (by omega) (by omega) rfl) ?_
    refine tn rfl (fun _ hG => y_fld fld26_0 rfl) ?_
    refine tn rfl (fun _ hG => y_lb (hbl4.ext hG) na3 rfl rfl) ?_
    refine tn rfl (fun _ hG => y_sub rfl rfl (by omega)) ?_
    refine t_end ?_
    have hz23 := hx22.size
    replace hN := hN.ext hx22
    replace hT := hT.ext hx22
    replace hE := hE.step hx22 (.inl (Nat.le_refl _))
    replace hbl4 := hbl4.ext hx22
    replace hlp0 := hlp0.step hx22 (.inl (Nat.le_refl _))
    refine sc cl65 (ref11_in_ok _ _ _ _) rfl ?_
    rintro v28 w24 ⟨rfl, ho25⟩
    have hz29 := ho25.size
    replace hN := hN.ext ho25
    replace hT := hT.ext ho25
    replace hE := hE.step ho25 (.inl (Nat.le_refl _))
    replace hbl4 := hbl4.ext ho25
    replace hlp0 := hlp0.step ho25 (.inl (Nat.le_refl _))
    refine st (y_not rfl) ?_
    refine rg_end ?_
    refine n_then ?_
    refine cnd rfl (fun hc2 => ?_) (fun hc2 => ?_)
    ·
     try simp only [nm] at hc2
     have hf : goodT N t = false := by simp only [goodT, all_false hc1 (q := fun x => decide (0 ≤ x ∧ x < N.p)) (by simp only [decide_eq_true_eq, decide_eq_false_iff_not, Bool.not_eq_true', Bool.not_eq_eq_eq_not, Bool.not_true, Bool.false_eq_true, false_iff, true_iff, iff_true, iff_false]; omega), Bool.and_false]
     refine wp_seq ?_
     refine rg ?_
     refine st (asB rfl) ?_
     refine rg_end ?_
     refine n_then ?_
     refine wp_ret ?_
     refine r_blk (r_then (r_then (r_blk (r_then (ret1 (v := (.bool _)) Try.results40 rfl ?_)))))
     exact ⟨by rw [hf], hE⟩
    ·
     try simp only [nm] at hc2
     refine wp_skip ?_
     refine n_blk ?_
     refine n_then ?_
     refine rg ?_
     refine st (mvI rfl) ?_
     refine st (y_add rfl rfl (by omega)) ?_
     refine st (asI rfl) ?_
     refine rg_end ?_
     exact n_then ⟨k + 1, _, rfl, same_lk rfl (same_h0), ⟨rfl, trivial⟩, ⟨hlp0, by omega, take_all_succ hc1 hall (by simp only [decide_eq_true_eq]; omega)⟩, by first | omega | (dsimp only; omega)⟩
   ·
    try simp only [nm] at hc1
    have hf : goodT N t = true := by simp only [goodT, hc0.1, hc0.2, all_take_len hc1 hall, Bool.and_self, decide_true]
    refine wp_exit ?_
    refine e_then (e_then (e_blk (?_)))
    refine n_then ?_
    refine wp_seq ?_
    refine rg ?_
    refine st (asB rfl) ?_
    refine rg_end ?_
    refine n_then ?_
    refine wp_ret ?_
    refine ret1 (v := (.bool _)) Try.results40 rfl ?_
    exact ⟨by rw [hf], hE⟩

set_option maxRecDepth 100000 in
theorem ref11_Lasts_ok (N : Net) (A : NetA) (lo hi : Nat) (t : List Int) (at_ : Option Addr) (ct : Nat) (lt ht : Nat) (a : Ac) (w : World) (hN : NetIn lo hi w N A) (hT : Ints lt ht w at_ t) (hg : GoodT N t) (ha : AcOk N a) : Cal Try.prog 64 [netV N A, .slice at_ t.length ct, .agg (encAc a).toArray] w (fun v w' => v = .int .i64 (durA N t a) ∧ Ext w w') := by
 have b1 := hg.rng _ (el_mem (l := t) ha.t0 (by rw [hg.len]; exact ha.t1))
 have b2 := hg.rng _ (el_mem (l := t) ha.f0 (by rw [hg.len]; exact ha.f1))
 have p2 := hg.ok.p2
 have p7 := hg.ok.p7
 have hl := hg.len
 obtain ⟨f0, f1, t0, t1, ne, m0, m1, m2, m3, _, _⟩ := ha
 have e1 := Int.emod_nonneg (el t a.tt - el t a.fr - a.mn) (show N.p ≠ 0 by omega)
 have e2 := Int.emod_lt_of_pos (el t a.tt - el t a.fr - a.mn) (show 0 < N.p by omega)
 have hE : Out 0 0 w w := Out.refl _ _ w
 refine enter Try.func64 rfl Try.ntmps64 rfl ?_
 refine wp_seq ?_
 refine rg ?_
 refine sd (d_boxA rfl ?_)
 intro bl4 w1 hbbl4 hs3 ho2 hbl4
 have hz5 := ho2.size
 replace hN := hN.ext ho2
 replace hT := hT.ext ho2
 replace hE := hE.step ho2 (.inl (Nat.le_refl _))
 refine sd (d_boxA rfl ?_)
 intro bl9 w6 hbbl9 hs8 ho7 hbl9
 have hz10 := ho7.size
 replace hN := hN.ext ho7
 replace hT := hT.ext ho7
 replace hE := hE.step ho7 (.inl (Nat.le_refl _))
 replace hbl4 := hbl4.ext ho7
 refine st (asI rfl) ?_
 refine rg_end ?_
 refine n_then ?_
 refine wp_seq ?_
 refine rgD 19 (fun w_ => Ext w6 w_) (fun i => Nat.beq i 18) mixed (by kernel_rfl) ?_
 intro w11 ho12 hs13
 refine ⟨ho12, ?_⟩
 have hx14 := ho12
 refine tn rfl (fun _ hG => y_fld fld36_3 rfl) ?_
 refine tn rfl (fun _ hG => y_lb (hbl9.ext hG) na3 rfl rfl) ?_
 refine tn rfl (fun _ hG => mvS rfl) ?_
 refine tn rfl (fun _ hG => y_fld fld36_2 rfl) ?_
 refine tn rfl (fun _ hG => y_lb (hbl9.ext hG) na3 rfl rfl) ?_
 refine tn rfl (fun _ hG => y_ix (hT.ext hG) sl22 rfl (rfl) rfl (by omega) (by omega)) ?_
 refine tn rfl (fun _ hG => y_le (hT.ext hG) na3 rfl (by omega) (by omega) rfl) ?_
 refine tn rfl (fun _ hG => mvS rfl) ?_
 refine tn rfl (fun _ hG => y_fld fld36_1 rfl) ?_
 refine tn rfl (fun _ hG => y_lb (hbl9.ext hG) na3 rfl rfl) ?_
 refine tn rfl (fun _ hG => y_ix (hT.ext hG) sl22 rfl (rfl) rfl (by omega) (by omega)) ?_
 refine tn rfl (fun _ hG => y_le (hT.ext hG) na3 rfl (by omega) (by omega) rfl) ?_
 refine tn rfl (fun _ hG => y_sub rfl rfl (by omega)) ?_
 refine tn rfl (fun _ hG => y_fld fld36_3 rfl) ?_
 refine tn rfl (fun _ hG => y_lb (hbl9.ext hG) na3 rfl rfl) ?_
 refine tn rfl (fun _ hG => y_sub rfl rfl (by omega)) ?_
 refine tn rfl (fun _ hG => y_fld fld26_0 rfl) ?_
 refine tn rfl (fun _ hG => y_lb (hbl4.ext hG) na3 rfl rfl) ?_
 refine tc rfl cl74 (ref1_Mod_ok _ _ _ (by omega) (by omega) (by omega)) rfl ?_
 rintro v19 w15 ⟨rfl, ho16⟩
 have hx20 := hx14.step ho16 (.inl (Nat.le_refl _))
 have hz21 := ho16.size
 refine ⟨hx20, ?_⟩
 refine t_end ?_
 have hz22 := hx20.size
 replace hN := hN.ext hx20
 replace hT := hT.ext hx20
 replace hE := hE.step hx20 (.inl (Nat.le_refl _))
 replace hbl4 := hbl4.ext hx20
 replace hbl9 := hbl9.ext hx20
 refine st (y_add rfl rfl (by omega)) ?_
 refine st (asI rfl) ?_
 refine rg_end ?_
 refine n_then ?_
 refine wp_ret ?_
 refine ret1 (v := (.int .i64 _)) Try.results64 rfl ?_
 exact ⟨rfl, hE⟩

set_option maxRecDepth 100000 in
theorem ref11_First_ok (N : Net) (A : NetA) (lo hi : Nat) (t : List Int) (at_ : Option Addr) (ct : Nat) (lt ht : Nat) (w : World) (hN : NetIn lo hi w N A) (hT : Ints lt ht w at_ t)  : Cal Try.prog 39 [netV N A, .slice at_ t.length ct] w (fun v w' => v = .tuple #[.int .i64 (firstI N t), .bool (firstB N t)] ∧ Ext w w') := by
 replace hN := hN.full
 replace hT := Ints.full hT
 have hE : Out 0 0 w w := Out.refl _ _ w
 refine enter Try.func39 rfl Try.ntmps39 rfl ?_
 refine wp_seq ?_
 refine rg ?_
 refine sd (d_boxA rfl ?_)
 intro bl4 w1 hbbl4 hs3 ho2 hbl4
 have hz5 := ho2.size
 replace hN := hN.ext ho2
 replace hT := hT.ext ho2
 replace hE := hE.step ho2 (.inl (Nat.le_refl _))
 refine st (asI rfl) ?_
 refine st (asB rfl) ?_
 refine rg_end ?_
 refine n_then ?_
 refine wp_seq ?_
 refine wp_seq ?_
 refine rg ?_
 refine st (y_lbN hbl4 agg26 rfl) ?_
 refine st (mvS rfl) ?_
 refine sc cl40 (ref11_Good_ok N A _ _ t _ _ _ _ _ hN hT) rfl ?_
 rintro v10 w6 ⟨rfl, ho7⟩
 have hz11 := ho7.size
 replace hN := hN.ext ho7
 replace hT := hT.ext ho7
 replace hE := hE.step ho7 (.inl (Nat.le_refl _))
 replace hbl4 := hbl4.ext ho7
 refine st (y_not rfl) ?_
 refine rg_end ?_
 refine n_then ?_
 refine cnd rfl (fun hc0 => ?_) (fun hc0 => ?_)
 ·
  try simp only [nm] at hc0
  have hf := hc0
  refine wp_seq ?_
  refine rg ?_
  refine st (asI rfl) ?_
  refine st (asB rfl) ?_
  refine rg_end ?_
  refine n_then ?_
  refine wp_ret ?_
  refine r_then (ret2 (v := (.int .i64 _)) (v' := (.bool _)) Try.results39 rfl rfl ?_)
  exact ⟨vib (by simp only [firstI, hf]; rfl) (by simp only [firstB, hf, Bool.false_and]), hE⟩
 ·
  try simp only [nm] at hc0
  have hg := goodT_iff.1 hc0
  have hlen := hg.ok.ac
  refine wp_skip ?_
  refine n_then ?_
  refine wp_seq ?_
  refine wp_seq ?_
  refine rg ?_
  refine st (asI rfl) ?_
  refine rg_end ?_
  refine n_then ?_
  refine wp_block ?_
  refine lp (γ := Nat) [4, 5, 6, 11, 12, 13, 14, 15, 16, 17, 18, 19, 20, 21, 22, 23, 24, 25, 26, 27, 28, 29, 30, 31, 32, 33] (fun k => [(6, .int .i64 (k : Int))]) (fun k w_ => Ext w6 w_ ∧ (k : Int) ≤ N.acts.length ∧ (N.acts.take k).findIdx? (fun a => decide (a.mx < durA N t a)) = none) (fun k => N.acts.length - k) 0 ⟨rfl, trivial⟩ ⟨Out.refl _ _ _, by omega, by simp⟩ ?_
  rintro k hav_ w12 ⟨ho13, hk, hnone⟩
  have hlp0 := ho13
  have hz14 := ho13.size
  replace hN := hN.ext ho13
  replace hT := hT.ext ho13
  replace hE := hE.step ho13 (.inl (Nat.le_refl _))
  replace hbl4 := hbl4.ext ho13
  refine wp_seq ?_
  refine wp_seq ?_
  refine rg ?_
  refine st (mvI rfl) ?_
  refine st (y_fld fld26_2 rfl) ?_
  refine st (y_lb hbl4 na24 rfl rfl) ?_
  refine st (y_len Try.underlying24 rfl) ?_
  refine st (y_lss rfl rfl) ?_
  refine rg_end ?_
  refine n_then ?_
  refine cnd rfl (fun hc1 => ?_) (fun hc1 => ?_)
  ·
   try simp only [nm] at hc1
   have ha := hg.ok.acs _ (el_mem (l := N.acts) (by omega) hc1)
   refine wp_skip ?_
   refine n_then ?_
   refine wp_seq ?_
   refine wp_block ?_
   refine wp_seq ?_
   refine rgD 14 (fun w_ => Ext w12 w_) (fun i => Nat.beq i 7) mixed (by kernel_rfl) ?_
   intro w15 ho16 hs17
   refine ⟨ho16, ?_⟩
   have hx18 := ho16
   refine tn rfl (fun _ hG => y_lbN (hbl4.ext hG) agg26 rfl) ?_
   refine tn rfl (fun _ hG => mvS rfl) ?_
   refine tn rfl (fun _ hG => y_fld fld26_2 rfl) ?_
   refine tn rfl (fun _ hG => y_lb (hbl4.ext hG) na24 rfl rfl) ?_
   refine tn rfl (fun _ hG => mvI rfl) ?_
   refine tn rfl (fun _ hG => y_ix (hN.a.ext hG) sl24 rfl (rfl) rfl (by omega) (by omega)) ?_
   refine tn rfl (fun _ hG => y_lw (hN.a.ext hG) agg36 rfl (by omega) (by omega)) ?_
   refine tc rfl cl64 (ref11_Lasts_ok N A _ _ t _ _ _ _ _ _ (hN.ext hx18) (hT.ext hx18) hg ha) rfl ?_
   rintro v23 w19 ⟨rfl, ho20⟩
   have hx24 := hx18.step ho20 (.inl (Nat.le_refl _))
   have hz25 := ho20.size
   refine ⟨hx24, ?_⟩
   refine tn rfl (fun _ hG => y_fld fld26_2 rfl) ?_
   refine tn rfl (fun _ hG => y_lb (hbl4.ext hG) na24 rfl rfl) ?_
   refine tn rfl (fun _ hG => mvI rfl) ?_
   refine tn rfl (fun _ hG => y_ix (hN.a.ext hG) sl24 rfl (rfl) rfl (by omega) (by omega)) ?_
   refine tn rfl (fun _ hG => y_fld fld36_4 rfl) ?_
   refine tn rfl (fun _ hG => y_lf (hN.a.ext hG) na3 rfl (by omega) (by omega) rfl) ?_
   refine t_end ?_
   have hz26 := hx24.size
   replace hN := hN.ext hx24
   replace hT := hT.ext hx24
   replace hE := hE.step hx24 (.inl (Nat.le_refl _))
   replace hbl4 := hbl4.ext hx24
   replace hlp0 := hlp0.step hx24 (.inl (Nat.le_refl _))
   refine st (y_gtr rfl rfl) ?_
   refine rg_end ?_
   refine n_then ?_
   refine cnd rfl (fun hc2 => ?_) (fun hc2 => ?_)
   ·
    try simp only [nm] at hc2
    have hf := find_here hc1 hnone (show decide _ = true from decide_eq_true hc2)
    refine wp_seq ?_
    refine rg ?_
    refine st (mvI rfl) ?_
    refine st (asI rfl) ?_
    refine st (asB rfl) ?_
    refine rg_end ?_
    refine n_then ?_
    refine wp_ret ?_
    refine r_blk (r_then (r_then (r_blk (r_then (ret2 (v := (.int .i64 _)) (v' := (.bool _)) Try.results39 rfl rfl ?_)))))
    exact ⟨vib (by simp only [firstI, firstBad, hc0, hf, if_true]) (by simp only [firstB, firstBad, hc0, hf, Bool.true_and, Option.isSome_some, Option.isSome_none]), hE⟩
   ·
    try simp only [nm] at hc2
    refine wp_skip ?_
    refine n_blk ?_
    refine n_then ?_
    refine rg ?_
    refine st (mvI rfl) ?_
    refine st (y_add rfl rfl (by omega)) ?_
    refine st (asI rfl) ?_
    refine rg_end ?_
    exact n_then ⟨k + 1, _, rfl, same_lk rfl (same_h0), ⟨rfl, trivial⟩, ⟨hlp0, by omega, find_take_succ hc1 hnone (by simp only [decide_eq_true_eq, decide_eq_false_iff_not, Bool.not_eq_true', Bool.not_eq_eq_eq_not, Bool.not_true, Bool.false_eq_true, false_iff, true_iff, iff_true, iff_false]; omega)⟩, by first | omega | (dsimp only; omega)⟩
  ·
   try simp only [nm] at hc1
   have hf := find_end hc1 hnone
   refine wp_exit ?_
   refine e_then (e_then (e_blk (?_)))
   refine n_then ?_
   refine wp_seq ?_
   refine rg ?_
   refine st (asI rfl) ?_
   refine st (asB rfl) ?_
   refine rg_end ?_
   refine n_then ?_
   refine wp_ret ?_
   refine ret2 (v := (.int .i64 _)) (v' := (.bool _)) Try.results39 rfl rfl ?_
   exact ⟨vib (by simp only [firstI, firstBad, hc0, hf, if_true]) (by simp only [firstB, firstBad, hc0, hf, Bool.true_and, Option.isSome_some, Option.isSome_none]), hE⟩

set_option maxRecDepth 100000 in
theorem ref11_Feasible_ok (N : Net) (A : NetA) (lo hi : Nat) (t : List Int) (at_ : Option Addr) (ct : Nat) (lt ht : Nat) (w : World) (hN : NetIn lo hi w N A) (hT : Ints lt ht w at_ t)  : Cal Try.prog 17 [netV N A, .slice at_ t.length ct] w (fun v w' => v = .bool (feas N t) ∧ Ext w w') := by
 have hE : Out 0 0 w w := Out.refl _ _ w
 refine enter Try.func17 rfl Try.ntmps17 rfl ?_
 refine wp_seq ?_
 refine rg ?_
 refine sd (d_boxA rfl ?_)
 intro bl4 w1 hbbl4 hs3 ho2 hbl4
 have hz5 := ho2.size
 replace hN := hN.ext ho2
 replace hT := hT.ext ho2
 replace hE := hE.step ho2 (.inl (Nat.le_refl _))
 refine st (asB rfl) ?_
 refine rg_end ?_
 refine n_then ?_
 refine wp_seq ?_
 refine rg ?_
 refine st (y_lbN hbl4 agg26 rfl) ?_
 refine st (mvS rfl) ?_
 refine sc cl39 (ref11_First_ok N A _ _ t _ _ _ _ _ hN hT) rfl ?_
 rintro v10 w6 ⟨rfl, ho7⟩
 have hz11 := ho7.size
 replace hN := hN.ext ho7
 replace hT := hT.ext ho7
 replace hE := hE.step ho7 (.inl (Nat.le_refl _))
 replace hbl4 := hbl4.ext ho7
 refine st (mvT rfl) ?_
 refine st (y_ext rfl rfl) ?_
 refine st (y_ext rfl rfl) ?_
 refine st (asI rfl) ?_
 refine st (asB rfl) ?_
 refine rg_end ?_
 refine n_then ?_
 refine wp_seq ?_
 refine rg ?_
 refine st (y_lbN hbl4 agg26 rfl) ?_
 refine st (mvS rfl) ?_
 refine sc cl40 (ref11_Good_ok N A _ _ t _ _ _ _ _ hN hT) rfl ?_
 rintro v16 w12 ⟨rfl, ho13⟩
 have hz17 := ho13.size
 replace hN := hN.ext ho13
 replace hT := hT.ext ho13
 replace hE := hE.step ho13 (.inl (Nat.le_refl _))
 replace hbl4 := hbl4.ext ho13
 refine st (mvB rfl) ?_
 refine gspL 16 rfl (fun hg18 => ?_) (fun hg18 => ?_)
 ·
  have hg18n := hg18; try simp only [nm] at hg18n
  refine stg rfl rfl hg18 (mvB rfl) ?_
  refine stg rfl rfl hg18 (y_not rfl) ?_
  refine st (y_pickT rfl hg18 (v := .bool _) rfl) ?_
  refine st (asB rfl) ?_
  refine rg_end ?_
  refine n_then ?_
  refine wp_ret ?_
  refine ret1 (v := (.bool _)) Try.results17 rfl ?_
  exact ⟨by rw [feas_eq]; simp_all, hE⟩
 ·
  have hg18n := hg18; try simp only [nm] at hg18n
  refine sts rfl rfl hg18 ?_
  refine sts rfl rfl hg18 ?_
  refine st (y_pickF rfl hg18 (v := .bool _) rfl) ?_
  refine st (asB rfl) ?_
  refine rg_end ?_
  refine n_then ?_
  refine wp_ret ?_
  refine ret1 (v := (.bool _)) Try.results17 rfl ?_
  exact ⟨by rw [feas_eq]; simp_all, hE⟩

theorem list_ext_el {a b : List Int} (hl : a.length = b.length) (h : ∀ q : Nat, q < a.length → el a q = el b q) : a = b := by
  apply List.ext_getElem hl
  intro i h1 h2
  have := h i h1
  simpa [el, h1, h2] using this

set_option maxRecDepth 100000 in
theorem keep_Same_int_ok (a b : List Int) (aa ab : Option Addr) (ca cb la ha_ lb hb_ : Nat) (w : World) (hA : Ints la ha_ w aa a) (hB : Ints lb hb_ w ab b) (hn : (a.length : Int) ≤ 9223372036854775807) : Cal Try.prog 33 [.slice aa a.length ca, .slice ab b.length cb] w (fun v w' => v = .bool (decide (a = b)) ∧ Ext w w') := by
 have hE : Out 0 0 w w := Out.refl _ _ w
 refine enter Try.func33 rfl Try.ntmps33 rfl ?_
 refine wp_seq ?_
 refine rg ?_
 refine st (asB rfl) ?_
 refine rg_end ?_
 refine n_then ?_
 refine wp_seq ?_
 refine wp_seq ?_
 refine rg ?_
 refine st (mvS rfl) ?_
 refine st (y_len Try.underlying22 rfl) ?_
 refine st (mvS rfl) ?_
 refine st (y_len Try.underlying22 rfl) ?_
 refine st (y_neq rfl rfl) ?_
 refine rg_end ?_
 refine n_then ?_
 refine cnd rfl (fun hc0 => ?_) (fun hc0 => ?_)
 ·
  try simp only [nm] at hc0
  refine wp_seq ?_
  refine rg ?_
  refine st (asB rfl) ?_
  refine rg_end ?_
  refine n_then ?_
  refine wp_ret ?_
  refine r_then (ret1 (v := (.bool _)) Try.results33 rfl ?_)
  exact ⟨vb (by simp; intro h; subst h; omega), hE⟩
 ·
  try simp only [nm] at hc0
  have hln : a.length = b.length := by omega
  refine wp_skip ?_
  refine n_then ?_
  refine wp_seq ?_
  refine wp_seq ?_
  refine rg ?_
  refine st (mvS rfl) ?_
  refine st (y_len Try.underlying22 rfl) ?_
  refine st (mvI rfl) ?_
  refine rg_end ?_
  refine n_then ?_
  refine wp_block ?_
  refine lp (γ := Nat) [4, 5, 13, 14, 15, 16, 17, 18, 19, 20, 21, 22, 23, 24, 25] (fun k => [(13, .int .i64 (k : Int))]) (fun k w_ => Ext w w_ ∧ (k : Int) ≤ a.length ∧ ∀ q : Nat, q < k → el a q = el b q) (fun k => a.length - k) 0 ⟨rfl, trivial⟩ ⟨Out.refl _ _ _, by omega, fun q hq => by omega⟩ ?_
  rintro k hav_ w1 ⟨ho2, hk, hall⟩
  have hlp0 := ho2
  have hz3 := ho2.size
  replace hA := hA.ext ho2
  replace hB := hB.ext ho2
  replace hE := hE.step ho2 (.inl (Nat.le_refl _))
  refine wp_seq ?_
  refine rg ?_
  refine st (y_lss rfl rfl) ?_
  refine rg_end ?_
  refine n_then ?_
  refine wp_seq ?_
  refine cnd rfl (fun hc1 => ?_) (fun hc1 => ?_)
  ·
   try simp only [nm] at hc1
   refine wp_skip ?_
   refine n_then ?_
   refine wp_seq ?_
   refine wp_block ?_
   refine wp_seq ?_
   refine rg ?_
   refine st (mvI rfl) ?_
   refine st (asI rfl) ?_
   refine rg_end ?_
   refine n_then ?_
   refine wp_seq ?_
   refine rgD 8 (fun w_ => Ext w1 w_) (fun i => false) mixed (by kernel_rfl) ?_
   intro w4 ho5 hs6
   refine ⟨ho5, ?_⟩
   have hx7 := ho5
   refine tn rfl (fun _ hG => mvS rfl) ?_
   refine tn rfl (fun _ hG => mvI rfl) ?_
   refine tn rfl (fun _ hG => y_ix (hA.ext hG) sl22 rfl (rfl) rfl (by omega) (by omega)) ?_
   refine tn rfl (fun _ hG => y_le (hA.ext hG) na3 rfl (by omega) (by omega) rfl) ?_
   refine tn rfl (fun _ hG => mvS rfl) ?_
   refine tn rfl (fun _ hG => mvI rfl) ?_
   refine tn rfl (fun _ hG => y_ix (hB.ext hG) sl22 rfl (rfl) rfl (by omega) (by omega)) ?_
   refine tn rfl (fun _ hG => y_le (hB.ext hG) na3 rfl (by omega) (by omega) rfl) ?_
   refine t_end ?_
   have hz8 := hx7.size
   replace hA := hA.ext hx7
   replace hB := hB.ext hx7
   replace hE := hE.step hx7 (.inl (Nat.le_refl _))
   replace hlp0 := hlp0.step hx7 (.inl (Nat.le_refl _))
   refine st (y_neq rfl rfl) ?_
   refine rg_end ?_
   refine n_then ?_
   refine cnd rfl (fun hc2 => ?_) (fun hc2 => ?_)
   ·
    try simp only [nm] at hc2
    refine wp_seq ?_
    refine rg ?_
    refine st (asB rfl) ?_
    refine rg_end ?_
    refine n_then ?_
    refine wp_ret ?_
    refine r_blk (r_then (r_then (r_blk (r_then (ret1 (v := (.bool _)) Try.results33 rfl ?_)))))
    exact ⟨vb (by simp; intro h; subst h; exact absurd rfl hc2), hE⟩
   ·
    try simp only [nm] at hc2
    refine wp_skip ?_
    refine n_blk ?_
    refine n_then ?_
    refine rg ?_
    refine st (y_add rfl rfl (by omega)) ?_
    refine st (mvI rfl) ?_
    refine rg_end ?_
    exact n_then ⟨k + 1, _, rfl, same_lk rfl (same_h0), ⟨rfl, trivial⟩, ⟨hlp0, by omega, fun q hq => by (by_cases e : q = k; subst e; assumption; exact hall q (by omega))⟩, by first | omega | (dsimp only; omega)⟩
  ·
   try simp only [nm] at hc1
   refine wp_exit ?_
   refine e_then (e_then (e_blk (?_)))
   refine n_then ?_
   refine wp_seq ?_
   refine rg ?_
   refine st (asB rfl) ?_
   refine rg_end ?_
   refine n_then ?_
   refine wp_ret ?_
   refine ret1 (v := (.bool _)) Try.results33 rfl ?_
   exact ⟨vb (by simp; exact list_ext_el hln (fun q hq => hall q (by omega))), hE⟩
end Go.Proofs.Ytclligkngjhihaa
