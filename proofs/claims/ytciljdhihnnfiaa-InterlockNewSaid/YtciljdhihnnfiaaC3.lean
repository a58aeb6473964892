/-
  Walks of the functions, printed by a program out of the code and the loops' relations.
-/
import Derived.Test.YtciljdhihnnfiaaWkD
import Derived.Test.YtciljdhihnnfiaaProg
import Derived.KernelRfl
import Derived.Test.YtciljdhihnnfiaaC2
namespace Go.Proofs.Ytciljdhihnnfiaa
open Go.Wk Go.RowKit
set_option linter.unusedVariables false
set_option linter.unusedSimpArgs false
theorem cl37 : Callable Try.prog 37 := ⟨Try.call37⟩
theorem cl38 : Callable Try.prog 38 := ⟨Try.call38⟩
theorem cl39 : Callable Try.prog 39 := ⟨Try.call39⟩

theorem pos_same {R : List Rs} {i : Int} {t : Int} : ({ el R i with ho := t } : Rs) = { el R i with ho := t, po := (el R i).po } := rfl
theorem nil_len {α : Type} {l : List α} : l = [] ↔ (l.length : Int) = 0 := by
  constructor
  · intro h; subst h; rfl
  · intro h; exact List.eq_nil_of_length_eq_zero (by omega)

set_option maxHeartbeats 1000000 in
set_option maxRecDepth 100000 in
theorem ilk_Grant_ok (S : IS) (lo hi b : Nat) (t : Int) (l : List Lk) (al : Option Addr) (cl la ha : Nat) (w : World) (hX : Ilk lo hi b w S) (hS : IsOk S) (hL : Sl encLk 2 la ha w al l) (hn : (l.length : Int) ≤ 9223372036854775807) (hld : ha ≤ lo ∨ hi ≤ la) (hlh : ha ≤ w.heap.size) : Cal Try.prog 22 [.pointer (some ⟨b, 0, none⟩), .int .i64 t, .slice al l.length cl] w (fun v w' => v = .int .i64 (grantE S t l) ∧ Ilk lo hi b w' (grantS S t l) ∧ Out lo hi w w') := by
  obtain ⟨ar, cr, af, cf, l2, h2, hb, hr, hf, hl2, hh2, hlb, hbh, hhi, hd1, hd2⟩ := hX.ex
  have hbl := hb.lt
  have hrn0 := hr.rng
  have hn1 := hS.n1
  have hn2 := hS.n2
  have hE : Out lo hi w w := Out.refl _ _ w
  refine enter Try.func22 rfl Try.ntmps22 rfl ?_
  refine wp_seq ?_
  refine rg ?_
  refine st (asI rfl) ?_
  refine rg_end ?_
  refine n_then ?_
  refine wp_seq ?_
  refine wp_seq ?_
  refine rg ?_
  refine st (mvI rfl) ?_
  refine sc cl36 (interlock_isTrain_ok _ _) rfl ?_
  rintro v5 w1 ⟨rfl, ho2⟩
  have hz6 := ho2.size
  replace hX := hX.ext ho2
  replace hb := hb.ext ho2
  replace hr := hr.ext ho2
  replace hf := hf.ext ho2
  replace hL := hL.ext ho2
  replace hE := hE.step ho2 (.inl (Nat.le_refl _))
  refine st (y_not rfl) ?_
  refine rg_end ?_
  refine n_then ?_
  refine cnd rfl (fun hc0 => ?_) (fun hc0 => ?_)
  ·
    try simp only [decide_eq_true_eq, decide_eq_false_iff_not, Bool.not_eq_true', Bool.not_eq_false', Bool.and_eq_true, Bool.or_eq_true, Bool.or_eq_false_iff, Bool.cond_true_right, Bool.cond_false_right, Bool.cond_true_left, Bool.cond_false_left, ne_eq, Decidable.not_not, bne_iff_ne, beq_iff_eq, beq_eq_false_iff_ne, Bool.not_true, Bool.not_false] at hc0
    have he := grE1 (S := S) (l := l) (show ¬ (0 ≤ t ∧ t < 10) by simp only [okT, decide_eq_false_iff_not] at hc0; exact hc0)
    refine wp_seq ?_
    refine rg ?_
    refine st (asI rfl) ?_
    refine rg_end ?_
    refine n_then ?_
    refine wp_ret ?_
    refine r_then (ret1 (v := (.int .i64 _)) Try.results22 rfl ?_)
    exact ⟨vi he.symm, by rw [grS_err (by rw [he]; decide)]; exact hX, hE⟩
  ·
    try simp only [decide_eq_true_eq, decide_eq_false_iff_not, Bool.not_eq_true', Bool.not_eq_false', Bool.and_eq_true, Bool.or_eq_true, Bool.or_eq_false_iff, Bool.cond_true_right, Bool.cond_false_right, Bool.cond_true_left, Bool.cond_false_left, ne_eq, Decidable.not_not, bne_iff_ne, beq_iff_eq, beq_eq_false_iff_ne, Bool.not_true, Bool.not_false] at hc0
    have ht : 0 ≤ t ∧ t < 10 := by simp only [okT, decide_eq_true_eq] at hc0; exact hc0
    refine wp_skip ?_
    refine n_then ?_
    refine wp_seq ?_
    refine wp_seq ?_
    refine rg ?_
    refine st (mvS rfl) ?_
    refine st (y_len Try.underlying46 rfl) ?_
    refine st (mvI rfl) ?_
    refine rg_end ?_
    refine n_then ?_
    refine wp_block ?_
    refine lp (γ := Nat) [6, 8, 24, 25, 26, 27, 28, 29, 30, 31, 32, 33, 34, 35, 36, 37, 38, 39, 40, 41, 42, 43] (fun k => [(24, .int .i64 (k : Int))]) (fun k w_ => Ext w1 w_ ∧ (k : Int) ≤ l.length ∧ (l.take k).all (fun q => !lkBad S.rs.length q) = true) (fun k => l.length - k) 0 ⟨rfl, trivial⟩ ⟨Out.refl _ _ _, by omega, by simp⟩ ?_
    rintro k hav_ w7 ⟨ho8, hk, hall⟩
    have hlp0 := ho8
    have hz9 := ho8.size
    replace hX := hX.ext ho8
    replace hb := hb.ext ho8
    replace hr := hr.ext ho8
    replace hf := hf.ext ho8
    replace hL := hL.ext ho8
    replace hE := hE.step ho8 (.inl (Nat.le_refl _))
    refine wp_seq ?_
    refine rg ?_
    refine st (y_lss rfl rfl) ?_
    refine rg_end ?_
    refine n_then ?_
    refine wp_seq ?_
    refine cnd rfl (fun hc1 => ?_) (fun hc1 => ?_)
    ·
      try simp only [decide_eq_true_eq, decide_eq_false_iff_not, Bool.not_eq_true', Bool.not_eq_false', Bool.and_eq_true, Bool.or_eq_true, Bool.or_eq_false_iff, Bool.cond_true_right, Bool.cond_false_right, Bool.cond_true_left, Bool.cond_false_left, ne_eq, Decidable.not_not, bne_iff_ne, beq_iff_eq, beq_eq_false_iff_ne, Bool.not_true, Bool.not_false] at hc1
      refine wp_skip ?_
      refine n_then ?_
      refine wp_seq ?_
      refine wp_block ?_
      refine wp_seq ?_
      refine rg ?_
      refine st (y_ix hL sl46 rfl (rfl) rfl (by omega) (by omega)) ?_
      refine st (y_lw hL agg45 rfl (by omega) (by omega)) ?_
      refine sd (d_allocA zer45 ?_)
      intro bl13 w10 hbbl13 hs12 ho11 hbl13
      have hz14 := ho11.size
      replace hX := hX.ext ho11
      replace hb := hb.ext ho11
      replace hr := hr.ext ho11
      replace hf := hf.ext ho11
      replace hL := hL.ext ho11
      replace hE := hE.step ho11 (.inl (Nat.le_refl _))
      replace hlp0 := hlp0.step ho11 (.inl (Nat.le_refl _))
      refine sd0 (d_stN hbl13 rfl rfl sz45 rfl rfl ?_)
      intro w15 hs17 ho16 hbl13'
      clear hbl13; have hbl13 := hbl13'; clear hbl13'
      have hz18 := ho16.size
      replace hX := hX.out ho16 (by first | omega | (simp only [blk_some, hi1_some] at *; omega))
      replace hb := hb.out ho16 (by first | omega | (simp only [blk_some, hi1_some] at *; omega))
      have hrnhr := hr.rng
      replace hr := hr.out ho16 (by first | omega | (simp only [blk_some, hi1_some] at *; omega))
      replace hf := hf.out ho16 (by first | omega | (simp only [blk_some, hi1_some] at *; omega))
      replace hL := hL.out ho16 (by first | omega | (simp only [blk_some, hi1_some] at *; omega))
      replace hE := hE.step ho16 (by first | omega | (simp only [blk_some, hi1_some] at *; omega))
      replace hlp0 := hlp0.step ho16 (by first | omega | (simp only [blk_some, hi1_some] at *; omega))
      refine rg_end ?_
      refine n_then ?_
      refine cut (γ := Unit) [28, 29, 30, 31, 32, 33, 34, 35, 36, 37, 38, 39, 40, 41, 42] (fun _ => [(42, .bool (lkBad S.rs.length (el l (k : Int))))]) (fun _ w_ => Ext w15 w_ ∧ True) ?_ ?_
      ·
        have hcut := Out.refl 0 0 w15
        refine rg ?_
        refine st (mvP rfl) ?_
        refine st (y_fld fld45_0 rfl) ?_
        refine st (y_lb hbl13 na3 rfl rfl) ?_
        refine sc cl35 (ilk_has_ok S _ _ _ _ _ hX hS) rfl ?_
        rintro v23 w19 ⟨rfl, ho20⟩
        have hz24 := ho20.size
        replace hX := hX.ext ho20
        replace hb := hb.ext ho20
        replace hr := hr.ext ho20
        replace hf := hf.ext ho20
        replace hL := hL.ext ho20
        replace hE := hE.step ho20 (.inl (Nat.le_refl _))
        replace hlp0 := hlp0.step ho20 (.inl (Nat.le_refl _))
        replace hbl13 := hbl13.ext ho20
        replace hcut := hcut.step ho20 (.inl (Nat.le_refl _))
        refine st (y_not rfl) ?_
        refine st (mvB rfl) ?_
        refine gspL 33 rfl (fun hg25 => ?_) (fun hg25 => ?_)
        ·
          have hg25n := hg25; try simp only [decide_eq_true_eq, decide_eq_false_iff_not, Bool.not_eq_true', Bool.not_eq_false', Bool.and_eq_true, Bool.or_eq_true, Bool.or_eq_false_iff, Bool.cond_true_right, Bool.cond_false_right, Bool.cond_true_left, Bool.cond_false_left, ne_eq, Decidable.not_not, bne_iff_ne, beq_iff_eq, beq_eq_false_iff_ne, Bool.not_true, Bool.not_false] at hg25n
          simp only [isR, decide_eq_true_eq, decide_eq_false_iff_not] at hg25n
          refine sts rfl rfl hg25 ?_
          refine sts rfl rfl hg25 ?_
          refine sts rfl rfl hg25 ?_
          refine st (y_pickT rfl hg25 (v := .bool _) rfl) ?_
          refine st (mvB rfl) ?_
          refine sts rfl rfl rfl ?_
          refine sts rfl rfl rfl ?_
          refine sts rfl rfl rfl ?_
          refine st (y_pickT rfl rfl (v := .bool _) rfl) ?_
          refine rg_end ?_
          exact n_then ⟨(), _, rfl, same_lk rfl (same_rfl), ⟨vb (by simp only [lkBad, isR, decide_eq_true_eq, decide_eq_false_iff_not, Bool.not_eq_true', Bool.not_eq_eq_eq_not, Bool.not_true, Bool.false_eq_true, false_iff, true_iff, iff_true, iff_false]; omega), trivial⟩, ⟨hcut, trivial⟩⟩
        ·
          have hg25n := hg25; try simp only [decide_eq_true_eq, decide_eq_false_iff_not, Bool.not_eq_true', Bool.not_eq_false', Bool.and_eq_true, Bool.or_eq_true, Bool.or_eq_false_iff, Bool.cond_true_right, Bool.cond_false_right, Bool.cond_true_left, Bool.cond_false_left, ne_eq, Decidable.not_not, bne_iff_ne, beq_iff_eq, beq_eq_false_iff_ne, Bool.not_true, Bool.not_false] at hg25n
          simp only [isR, decide_eq_true_eq, decide_eq_false_iff_not] at hg25n
          refine stg rfl rfl hg25 (y_fld fld45_1 rfl) ?_
          refine stg rfl rfl hg25 (y_lb hbl13 na3 rfl rfl) ?_
          refine stg rfl rfl hg25 (y_lss rfl rfl) ?_
          refine st (y_pickF rfl hg25 (v := .bool _) rfl) ?_
          refine st (mvB rfl) ?_
          refine gspL 38 rfl (fun hg26 => ?_) (fun hg26 => ?_)
          ·
            have hg26n := hg26; try simp only [decide_eq_true_eq, decide_eq_false_iff_not, Bool.not_eq_true', Bool.not_eq_false', Bool.and_eq_true, Bool.or_eq_true, Bool.or_eq_false_iff, Bool.cond_true_right, Bool.cond_false_right, Bool.cond_true_left, Bool.cond_false_left, ne_eq, Decidable.not_not, bne_iff_ne, beq_iff_eq, beq_eq_false_iff_ne, Bool.not_true, Bool.not_false] at hg26n
            refine sts rfl rfl hg26 ?_
            refine sts rfl rfl hg26 ?_
            refine sts rfl rfl hg26 ?_
            refine st (y_pickT rfl hg26 (v := .bool _) rfl) ?_
            refine rg_end ?_
            exact n_then ⟨(), _, rfl, same_lk rfl (same_rfl), ⟨vb (by simp only [lkBad, isR, decide_eq_true_eq, decide_eq_false_iff_not, Bool.not_eq_true', Bool.not_eq_eq_eq_not, Bool.not_true, Bool.false_eq_true, false_iff, true_iff, iff_true, iff_false]; omega), trivial⟩, ⟨hcut, trivial⟩⟩
          ·
            have hg26n := hg26; try simp only [decide_eq_true_eq, decide_eq_false_iff_not, Bool.not_eq_true', Bool.not_eq_false', Bool.and_eq_true, Bool.or_eq_true, Bool.or_eq_false_iff, Bool.cond_true_right, Bool.cond_false_right, Bool.cond_true_left, Bool.cond_false_left, ne_eq, Decidable.not_not, bne_iff_ne, beq_iff_eq, beq_eq_false_iff_ne, Bool.not_true, Bool.not_false] at hg26n
            refine stg rfl rfl hg26 (y_fld fld45_1 rfl) ?_
            refine stg rfl rfl hg26 (y_lb hbl13 na3 rfl rfl) ?_
            refine stg rfl rfl hg26 (y_gtr rfl rfl) ?_
            refine st (y_pickF rfl hg26 (v := .bool _) rfl) ?_
            refine rg_end ?_
            exact n_then ⟨(), _, rfl, same_lk rfl (same_rfl), ⟨vb (by simp only [lkBad, isR, decide_eq_true_eq, decide_eq_false_iff_not, Bool.not_eq_true', Bool.not_eq_eq_eq_not, Bool.not_true, Bool.false_eq_true, false_iff, true_iff, iff_true, iff_false]; omega), trivial⟩, ⟨hcut, trivial⟩⟩
      ·
        rintro _ hav_ w27 ⟨ho28, _⟩
        have hz29 := ho28.size
        replace hX := hX.ext ho28
        replace hb := hb.ext ho28
        replace hr := hr.ext ho28
        replace hf := hf.ext ho28
        replace hL := hL.ext ho28
        replace hE := hE.step ho28 (.inl (Nat.le_refl _))
        replace hlp0 := hlp0.step ho28 (.inl (Nat.le_refl _))
        replace hbl13 := hbl13.ext ho28
        refine cnd rfl (fun hc2 => ?_) (fun hc2 => ?_)
        ·
          try simp only [decide_eq_true_eq, decide_eq_false_iff_not, Bool.not_eq_true', Bool.not_eq_false', Bool.and_eq_true, Bool.or_eq_true, Bool.or_eq_false_iff, Bool.cond_true_right, Bool.cond_false_right, Bool.cond_true_left, Bool.cond_false_left, ne_eq, Decidable.not_not, bne_iff_ne, beq_iff_eq, beq_eq_false_iff_ne, Bool.not_true, Bool.not_false] at hc2
          have he := grE2 ht (lk_any hc1 hc2)
          refine wp_seq ?_
          refine rg ?_
          refine st (asI rfl) ?_
          refine rg_end ?_
          refine n_then ?_
          refine wp_ret ?_
          refine r_blk (r_then (r_then (r_blk (r_then (ret1 (v := (.int .i64 _)) Try.results22 rfl ?_)))))
          exact ⟨vi he.symm, by rw [grS_err (by rw [he]; decide)]; exact hX, hE⟩
        ·
          try simp only [decide_eq_true_eq, decide_eq_false_iff_not, Bool.not_eq_true', Bool.not_eq_false', Bool.and_eq_true, Bool.or_eq_true, Bool.or_eq_false_iff, Bool.cond_true_right, Bool.cond_false_right, Bool.cond_true_left, Bool.cond_false_left, ne_eq, Decidable.not_not, bne_iff_ne, beq_iff_eq, beq_eq_false_iff_ne, Bool.not_true, Bool.not_false] at hc2
          have hq : (!lkBad S.rs.length (el l (k : Int))) = true := by rw [hc2]; rfl
          refine wp_skip ?_
          refine n_blk ?_
          refine n_then ?_
          refine rg ?_
          refine st (y_add rfl rfl (by omega)) ?_
          refine st (mvI rfl) ?_
          refine rg_end ?_
          exact n_then ⟨k + 1, _, rfl, same_lk rfl (same_hav rfl (same_lk rfl (same_h0))), ⟨rfl, trivial⟩, ⟨hlp0, by omega, take_all_succ hc1 hall hq⟩, by first | omega | (dsimp only; omega)⟩
    ·
      try simp only [decide_eq_true_eq, decide_eq_false_iff_not, Bool.not_eq_true', Bool.not_eq_false', Bool.and_eq_true, Bool.or_eq_true, Bool.or_eq_false_iff, Bool.cond_true_right, Bool.cond_false_right, Bool.cond_true_left, Bool.cond_false_left, ne_eq, Decidable.not_not, bne_iff_ne, beq_iff_eq, beq_eq_false_iff_ne, Bool.not_true, Bool.not_false] at hc1
      obtain ⟨hbad, hlk⟩ := lk_all (all_take_len hc1 hall)
      refine wp_exit ?_
      refine e_then (e_then (e_blk (?_)))
      refine n_then ?_
      refine wp_seq ?_
      refine cut (γ := Unit) [44, 45, 46, 47, 48, 49, 50, 51] (fun _ => [(51, .bool (decide (l = [] ∨ repGo l (fun _ => false) = true)))]) (fun _ w_ => Ext w7 w_ ∧ True) ?_ ?_
      ·
        have hcut := Out.refl 0 0 w7
        refine rg ?_
        refine st (mvS rfl) ?_
        refine st (y_len Try.underlying46 rfl) ?_
        refine st (y_eql rfl rfl) ?_
        refine st (mvB rfl) ?_
        refine gspL 47 rfl (fun hg30 => ?_) (fun hg30 => ?_)
        ·
          have hg30n := hg30; try simp only [decide_eq_true_eq, decide_eq_false_iff_not, Bool.not_eq_true', Bool.not_eq_false', Bool.and_eq_true, Bool.or_eq_true, Bool.or_eq_false_iff, Bool.cond_true_right, Bool.cond_false_right, Bool.cond_true_left, Bool.cond_false_left, ne_eq, Decidable.not_not, bne_iff_ne, beq_iff_eq, beq_eq_false_iff_ne, Bool.not_true, Bool.not_false] at hg30n
          refine sts rfl rfl hg30 ?_
          refine sts rfl rfl hg30 ?_
          refine sts rfl rfl hg30 ?_
          refine st (y_pickT rfl hg30 (v := .bool _) rfl) ?_
          refine rg_end ?_
          exact n_then ⟨(), _, rfl, same_lk rfl (same_rfl), ⟨vb (by simp only [nil_len, decide_eq_true_eq, decide_eq_false_iff_not, Bool.not_eq_true', Bool.not_eq_eq_eq_not, Bool.not_true, Bool.false_eq_true, false_iff, true_iff, iff_true, iff_false] at *; simp_all), trivial⟩, ⟨hcut, trivial⟩⟩
        ·
          have hg30n := hg30; try simp only [decide_eq_true_eq, decide_eq_false_iff_not, Bool.not_eq_true', Bool.not_eq_false', Bool.and_eq_true, Bool.or_eq_true, Bool.or_eq_false_iff, Bool.cond_true_right, Bool.cond_false_right, Bool.cond_true_left, Bool.cond_false_left, ne_eq, Decidable.not_not, bne_iff_ne, beq_iff_eq, beq_eq_false_iff_ne, Bool.not_true, Bool.not_false] at hg30n
          refine stg rfl rfl hg30 (mvP rfl) ?_
          refine stg rfl rfl hg30 (mvS rfl) ?_
          refine scg rfl rfl hg30 cl37 (ilk_repeated_ok S _ _ _ l _ _ _ _ _ hX hS hL hn hlk) rfl ?_
          rintro v35 w31 ⟨rfl, ho32⟩
          have hz36 := ho32.size
          replace hX := hX.ext ho32
          replace hb := hb.ext ho32
          replace hr := hr.ext ho32
          replace hf := hf.ext ho32
          replace hL := hL.ext ho32
          replace hE := hE.step ho32 (.inl (Nat.le_refl _))
          replace hcut := hcut.step ho32 (.inl (Nat.le_refl _))
          refine st (y_pickF rfl hg30 (v := .bool _) rfl) ?_
          refine rg_end ?_
          exact n_then ⟨(), _, rfl, same_lk rfl (same_rfl), ⟨vb (by simp only [nil_len, decide_eq_true_eq, decide_eq_false_iff_not, Bool.not_eq_true', Bool.not_eq_eq_eq_not, Bool.not_true, Bool.false_eq_true, false_iff, true_iff, iff_true, iff_false] at *; simp_all), trivial⟩, ⟨hcut, trivial⟩⟩
      ·
        rintro _ hav_ w37 ⟨ho38, _⟩
        have hz39 := ho38.size
        replace hX := hX.ext ho38
        replace hb := hb.ext ho38
        replace hr := hr.ext ho38
        replace hf := hf.ext ho38
        replace hL := hL.ext ho38
        replace hE := hE.step ho38 (.inl (Nat.le_refl _))
        refine cnd rfl (fun hc3 => ?_) (fun hc3 => ?_)
        ·
          try simp only [decide_eq_true_eq, decide_eq_false_iff_not, Bool.not_eq_true', Bool.not_eq_false', Bool.and_eq_true, Bool.or_eq_true, Bool.or_eq_false_iff, Bool.cond_true_right, Bool.cond_false_right, Bool.cond_true_left, Bool.cond_false_left, ne_eq, Decidable.not_not, bne_iff_ne, beq_iff_eq, beq_eq_false_iff_ne, Bool.not_true, Bool.not_false] at hc3
          have he := grE3 ht hbad hc3
          refine wp_seq ?_
          refine rg ?_
          refine st (asI rfl) ?_
          refine rg_end ?_
          refine n_then ?_
          refine wp_ret ?_
          refine r_then (ret1 (v := (.int .i64 _)) Try.results22 rfl ?_)
          exact ⟨vi he.symm, by rw [grS_err (by rw [he]; decide)]; exact hX, hE⟩
        ·
          try simp only [decide_eq_true_eq, decide_eq_false_iff_not, Bool.not_eq_true', Bool.not_eq_false', Bool.and_eq_true, Bool.or_eq_true, Bool.or_eq_false_iff, Bool.cond_true_right, Bool.cond_false_right, Bool.cond_true_left, Bool.cond_false_left, ne_eq, Decidable.not_not, bne_iff_ne, beq_iff_eq, beq_eq_false_iff_ne, Bool.not_true, Bool.not_false] at hc3
          refine wp_skip ?_
          refine n_then ?_
          refine wp_seq ?_
          refine wp_seq ?_
          refine rg ?_
          refine st (mvS rfl) ?_
          refine st (y_len Try.underlying46 rfl) ?_
          refine st (mvI rfl) ?_
          refine rg_end ?_
          refine n_then ?_
          refine wp_block ?_
          refine lp (γ := Nat) [6, 10, 11, 54, 55, 56, 57, 58, 59, 60, 61, 62, 63, 64, 65] (fun k => [(54, .int .i64 (k : Int))]) (fun k w_ => Ext w37 w_ ∧ (k : Int) ≤ l.length ∧ lksE S t l = lksE S t (l.drop k)) (fun k => l.length - k) 0 ⟨rfl, trivial⟩ ⟨Out.refl _ _ _, by omega, rfl⟩ ?_
          rintro k hav_ w40 ⟨ho41, hk, hls⟩
          have hlp1 := ho41
          have hz42 := ho41.size
          replace hX := hX.ext ho41
          replace hb := hb.ext ho41
          replace hr := hr.ext ho41
          replace hf := hf.ext ho41
          replace hL := hL.ext ho41
          replace hE := hE.step ho41 (.inl (Nat.le_refl _))
          refine wp_seq ?_
          refine rg ?_
          refine st (y_lss rfl rfl) ?_
          refine rg_end ?_
          refine n_then ?_
          refine wp_seq ?_
          refine cnd rfl (fun hc4 => ?_) (fun hc4 => ?_)
          ·
            try simp only [decide_eq_true_eq, decide_eq_false_iff_not, Bool.not_eq_true', Bool.not_eq_false', Bool.and_eq_true, Bool.or_eq_true, Bool.or_eq_false_iff, Bool.cond_true_right, Bool.cond_false_right, Bool.cond_true_left, Bool.cond_false_left, ne_eq, Decidable.not_not, bne_iff_ne, beq_iff_eq, beq_eq_false_iff_ne, Bool.not_true, Bool.not_false] at hc4
            have hkl := hlk _ (el_mem (l := l) (i := (k : Int)) (by omega) hc4)
            refine wp_skip ?_
            refine n_then ?_
            refine wp_seq ?_
            refine wp_block ?_
            refine wp_seq ?_
            refine rg ?_
            refine st (y_ix hL sl46 rfl (rfl) rfl (by omega) (by omega)) ?_
            refine st (y_lw hL agg45 rfl (by omega) (by omega)) ?_
            refine sd (d_allocA zer45 ?_)
            intro bl46 w43 hbbl46 hs45 ho44 hbl46
            have hz47 := ho44.size
            replace hX := hX.ext ho44
            replace hb := hb.ext ho44
            replace hr := hr.ext ho44
            replace hf := hf.ext ho44
            replace hL := hL.ext ho44
            replace hE := hE.step ho44 (.inl (Nat.le_refl _))
            replace hlp1 := hlp1.step ho44 (.inl (Nat.le_refl _))
            refine sd0 (d_stN hbl46 rfl rfl sz45 rfl rfl ?_)
            intro w48 hs50 ho49 hbl46'
            clear hbl46; have hbl46 := hbl46'; clear hbl46'
            have hz51 := ho49.size
            replace hX := hX.out ho49 (by first | omega | (simp only [blk_some, hi1_some] at *; omega))
            replace hb := hb.out ho49 (by first | omega | (simp only [blk_some, hi1_some] at *; omega))
            have hrnhr := hr.rng
            replace hr := hr.out ho49 (by first | omega | (simp only [blk_some, hi1_some] at *; omega))
            replace hf := hf.out ho49 (by first | omega | (simp only [blk_some, hi1_some] at *; omega))
            replace hL := hL.out ho49 (by first | omega | (simp only [blk_some, hi1_some] at *; omega))
            replace hE := hE.step ho49 (by first | omega | (simp only [blk_some, hi1_some] at *; omega))
            replace hlp1 := hlp1.step ho49 (by first | omega | (simp only [blk_some, hi1_some] at *; omega))
            refine rg_end ?_
            refine n_then ?_
            refine wp_seq ?_
            refine rg ?_
            refine st (mvP rfl) ?_
            refine st (mvI rfl) ?_
            refine st (y_lbN hbl46 agg45 rfl) ?_
            refine sc cl38 (ilk_checkLock_ok S _ _ _ _ _ _ hX hS ⟨hkl.1, hkl.2.1⟩) rfl ?_
            rintro v56 w52 ⟨rfl, ho53⟩
            have hz57 := ho53.size
            replace hX := hX.ext ho53
            replace hb := hb.ext ho53
            replace hr := hr.ext ho53
            replace hf := hf.ext ho53
            replace hL := hL.ext ho53
            replace hE := hE.step ho53 (.inl (Nat.le_refl _))
            replace hlp1 := hlp1.step ho53 (.inl (Nat.le_refl _))
            replace hbl46 := hbl46.ext ho53
            refine st (asI rfl) ?_
            refine rg_end ?_
            refine n_then ?_
            refine wp_seq ?_
            refine rg ?_
            refine st (mvI rfl) ?_
            refine st (y_neq rfl rfl) ?_
            refine rg_end ?_
            refine n_then ?_
            refine cnd rfl (fun hc5 => ?_) (fun hc5 => ?_)
            ·
              try simp only [decide_eq_true_eq, decide_eq_false_iff_not, Bool.not_eq_true', Bool.not_eq_false', Bool.and_eq_true, Bool.or_eq_true, Bool.or_eq_false_iff, Bool.cond_true_right, Bool.cond_false_right, Bool.cond_true_left, Bool.cond_false_left, ne_eq, Decidable.not_not, bne_iff_ne, beq_iff_eq, beq_eq_false_iff_ne, Bool.not_true, Bool.not_false] at hc5
              have he := (grE4 ht hbad hc3 (by rw [lks_err hc4 hls hc5]; exact hc5)).trans (lks_err hc4 hls hc5)
              refine wp_seq ?_
              refine rg ?_
              refine st (mvI rfl) ?_
              refine st (asI rfl) ?_
              refine rg_end ?_
              refine n_then ?_
              refine wp_ret ?_
              refine r_blk (r_then (r_then (r_blk (r_then (ret1 (v := (.int .i64 _)) Try.results22 rfl ?_)))))
              exact ⟨vi he.symm, by rw [grS_err (by rw [he]; exact hc5)]; exact hX, hE⟩
            ·
              try simp only [decide_eq_true_eq, decide_eq_false_iff_not, Bool.not_eq_true', Bool.not_eq_false', Bool.and_eq_true, Bool.or_eq_true, Bool.or_eq_false_iff, Bool.cond_true_right, Bool.cond_false_right, Bool.cond_true_left, Bool.cond_false_left, ne_eq, Decidable.not_not, bne_iff_ne, beq_iff_eq, beq_eq_false_iff_ne, Bool.not_true, Bool.not_false] at hc5
              refine wp_skip ?_
              refine n_blk ?_
              refine n_then ?_
              refine rg ?_
              refine st (y_add rfl rfl (by omega)) ?_
              refine st (mvI rfl) ?_
              refine rg_end ?_
              exact n_then ⟨k + 1, _, rfl, same_lk rfl (same_h0), ⟨rfl, trivial⟩, ⟨hlp1, by omega, lks_step hc4 hls hc5⟩, by first | omega | (dsimp only; omega)⟩
          ·
            try simp only [decide_eq_true_eq, decide_eq_false_iff_not, Bool.not_eq_true', Bool.not_eq_false', Bool.and_eq_true, Bool.or_eq_true, Bool.or_eq_false_iff, Bool.cond_true_right, Bool.cond_false_right, Bool.cond_true_left, Bool.cond_false_left, ne_eq, Decidable.not_not, bne_iff_ne, beq_iff_eq, beq_eq_false_iff_ne, Bool.not_true, Bool.not_false] at hc4
            have hlz := lks_end hc4 hls
            refine wp_exit ?_
            refine e_then (e_then (e_blk (?_)))
            refine n_then ?_
            refine wp_seq ?_
            refine rg ?_
            refine st (mvP rfl) ?_
            refine st (mvS rfl) ?_
            refine sc cl39 (ilk_flankMoves_ok S _ _ _ l _ _ _ _ _ hX hS hL hn hlk) rfl ?_
            rintro v62 w58 ⟨am, cm, M, e, rfl, hfe, hMe, hMs, ho59⟩
            have hz63 := ho59.size
            replace hX := hX.ext ho59
            replace hb := hb.ext ho59
            replace hr := hr.ext ho59
            replace hf := hf.ext ho59
            replace hL := hL.ext ho59
            replace hE := hE.step ho59 (.inl (Nat.le_refl _))
            refine st (mvT rfl) ?_
            refine st (y_ext rfl rfl) ?_
            refine st (y_ext rfl rfl) ?_
            refine st (asS rfl) ?_
            refine st (asI rfl) ?_
            refine rg_end ?_
            refine n_then ?_
            refine wp_seq ?_
            refine wp_seq ?_
            refine rg ?_
            refine st (mvI rfl) ?_
            refine st (y_neq rfl rfl) ?_
            refine rg_end ?_
            refine n_then ?_
            refine cnd rfl (fun hc6 => ?_) (fun hc6 => ?_)
            ·
              try simp only [decide_eq_true_eq, decide_eq_false_iff_not, Bool.not_eq_true', Bool.not_eq_false', Bool.and_eq_true, Bool.or_eq_true, Bool.or_eq_false_iff, Bool.cond_true_right, Bool.cond_false_right, Bool.cond_true_left, Bool.cond_false_left, ne_eq, Decidable.not_not, bne_iff_ne, beq_iff_eq, beq_eq_false_iff_ne, Bool.not_true, Bool.not_false] at hc6
              have he : grantE S t l = e := (grE5 ht hbad hc3 hlz).trans hfe.symm
              refine wp_seq ?_
              refine rg ?_
              refine st (mvI rfl) ?_
              refine st (asI rfl) ?_
              refine rg_end ?_
              refine n_then ?_
              refine wp_ret ?_
              refine r_then (ret1 (v := (.int .i64 _)) Try.results22 rfl ?_)
              exact ⟨vi he.symm, by rw [grS_err (by rw [he]; exact hc6)]; exact hX, hE⟩
            ·
              try simp only [decide_eq_true_eq, decide_eq_false_iff_not, Bool.not_eq_true', Bool.not_eq_false', Bool.and_eq_true, Bool.or_eq_true, Bool.or_eq_false_iff, Bool.cond_true_right, Bool.cond_false_right, Bool.cond_true_left, Bool.cond_false_left, ne_eq, Decidable.not_not, bne_iff_ne, beq_iff_eq, beq_eq_false_iff_ne, Bool.not_true, Bool.not_false] at hc6
              have he : grantE S t l = 0 := ((grE5 ht hbad hc3 hlz).trans hfe.symm).trans hc6
              have hM := hMe hc6
              have hrep : repGo l (fun _ => false) = false := by cases hq : repGo l (fun _ => false) with | false => rfl | true => exact absurd (.inr hq) hc3
              have hml := mov_len (B := nw S l) (fl := S.fl) (k := S.fl.length)
              rw [List.take_length, ← hM] at hml
              have hfl144 := hS.fl.len
              refine wp_skip ?_
              refine n_then ?_
              refine wp_seq ?_
              refine wp_seq ?_
              refine rg ?_
              refine st (mvS rfl) ?_
              refine st (y_len Try.underlying46 rfl) ?_
              refine st (mvI rfl) ?_
              refine rg_end ?_
              refine n_then ?_
              refine wp_block ?_
              have hrn1 := hr.rng
              refine lp (γ := Nat × List Rs) [15, 16, 77, 78, 79, 80, 81, 82, 83, 84, 85, 86, 87, 88, 89, 90, 91, 92, 93, 94, 95, 96, 97, 98, 99, 100] (fun ⟨k, R⟩ => [(77, .int .i64 (k : Int))]) (fun ⟨k, R⟩ w_ => Out (blk ar) (hi1 ar) w58 w_ ∧ (k : Int) ≤ l.length ∧ GrA S t (l.take k) (wan S (l.take k)) R ∧ Ow 64 encRs 4 lo hi w_ ar cr R) (fun ⟨k, R⟩ => l.length - k) (0, S.rs) ⟨rfl, trivial⟩ ⟨Out.refl _ _ _, by simp, GrA.start S t, hr⟩ ?_
              rintro ⟨k, R⟩ hav_ w64 ⟨ho65, hk, hGr, hr⟩
              have hlp2 := ho65
              have hz66 := ho65.size
              replace hb := hb.out ho65 (by first | omega | (simp only [blk_some, hi1_some] at *; omega))
              replace hf := hf.out ho65 (by first | omega | (simp only [blk_some, hi1_some] at *; omega))
              replace hL := hL.out ho65 (by first | omega | (simp only [blk_some, hi1_some] at *; omega))
              replace hE := hE.step ho65 (by first | omega | (simp only [blk_some, hi1_some] at *; omega))
              replace hMs := hMs.out ho65 (by first | omega | (simp only [blk_some, hi1_some] at *; omega))
              refine wp_seq ?_
              refine rg ?_
              refine st (y_lss rfl rfl) ?_
              refine rg_end ?_
              refine n_then ?_
              refine wp_seq ?_
              refine cnd rfl (fun hc7 => ?_) (fun hc7 => ?_)
              ·
                try simp only [decide_eq_true_eq, decide_eq_false_iff_not, Bool.not_eq_true', Bool.not_eq_false', Bool.and_eq_true, Bool.or_eq_true, Bool.or_eq_false_iff, Bool.cond_true_right, Bool.cond_false_right, Bool.cond_true_left, Bool.cond_false_left, ne_eq, Decidable.not_not, bne_iff_ne, beq_iff_eq, beq_eq_false_iff_ne, Bool.not_true, Bool.not_false] at hc7
                have hkl := hlk _ (el_mem (l := l) (i := (k : Int)) (by omega) hc7)
                have hne := repGo_take l _ k hrep hc7
                have hRl := hGr.1
                refine wp_skip ?_
                refine n_then ?_
                refine wp_seq ?_
                refine wp_block ?_
                refine wp_seq ?_
                refine rg ?_
                refine st (y_ix hL sl46 rfl (rfl) rfl (by omega) (by omega)) ?_
                refine st (y_lw hL agg45 rfl (by omega) (by omega)) ?_
                refine sd (d_allocA zer45 ?_)
                intro b15 w67 hbb15 hs69 ho68 hb15
                have hz70 := ho68.size
                replace hb := hb.ext ho68
                replace hf := hf.ext ho68
                replace hL := hL.ext ho68
                replace hE := hE.step ho68 (.inl (Nat.le_refl _))
                replace hMs := hMs.ext ho68
                replace hr := hr.ext ho68
                replace hlp2 := hlp2.step ho68 (.inl (Nat.le_refl _))
                refine sd0 (d_stN hb15 rfl rfl sz45 rfl rfl ?_)
                intro w71 hs73 ho72 hb15'
                clear hb15; have hb15 := hb15'; clear hb15'
                have hz74 := ho72.size
                replace hb := hb.out ho72 (by first | omega | (simp only [blk_some, hi1_some] at *; omega))
                replace hf := hf.out ho72 (by first | omega | (simp only [blk_some, hi1_some] at *; omega))
                replace hL := hL.out ho72 (by first | omega | (simp only [blk_some, hi1_some] at *; omega))
                replace hE := hE.step ho72 (by first | omega | (simp only [blk_some, hi1_some] at *; omega))
                replace hMs := hMs.out ho72 (by first | omega | (simp only [blk_some, hi1_some] at *; omega))
                have hrnhr := hr.rng
                replace hr := hr.out ho72 (by first | omega | (simp only [blk_some, hi1_some] at *; omega))
                replace hlp2 := hlp2.step ho72 (by first | omega | (simp only [blk_some, hi1_some] at *; omega))
                refine rg_end ?_
                refine n_then ?_
                refine wp_seq ?_
                refine rgD 6 (fun w_ => Ext w71 w_) (fun i => false) mixed (by kernel_rfl) ?_
                intro w75 ho76 hs77
                refine ⟨ho76, ?_⟩
                have hx78 := ho76
                refine tn rfl (fun _ hG => mvP rfl) ?_
                refine tn rfl (fun _ hG => y_nil rfl) ?_
                refine tn rfl (fun _ hG => y_fld fld62_0 rfl) ?_
                refine tn rfl (fun _ hG => y_lb (hb.ext hG) na59 rfl rfl) ?_
                refine tn rfl (fun _ hG => y_fld fld45_0 rfl) ?_
                refine tn rfl (fun _ hG => y_lb (hb15.ext hG) na3 rfl rfl) ?_
                refine t_end ?_
                have hz79 := hx78.size
                replace hb := hb.ext hx78
                replace hf := hf.ext hx78
                replace hL := hL.ext hx78
                replace hE := hE.step hx78 (.inl (Nat.le_refl _))
                replace hMs := hMs.ext hx78
                replace hr := hr.ext hx78
                replace hlp2 := hlp2.step hx78 (.inl (Nat.le_refl _))
                replace hb15 := hb15.ext hx78
                refine st (y_ix hr.sl sl59 rfl (hGr.1.symm) rfl (by omega) (by omega)) ?_
                refine st (asP rfl) ?_
                refine rg_end ?_
                refine n_then ?_
                refine wp_seq ?_
                refine rg ?_
                refine st (mvP rfl) ?_
                refine st (mvI rfl) ?_
                refine st (y_nil rfl) ?_
                refine st (y_fld fld64_0 rfl) ?_
                refine sd0 (d_se (j := 0) (e' := { el R (el l (k : Int)).rs with ho := t }) hr sz3 rfl rfl rfl (by omega) (by omega) (Nat.le_of_ble_eq_true rfl) rfl ?_)
                intro w80 hs82 ho81 hr'
                have hrhr := hr.rng
                clear hr; have hr := hr'; clear hr'
                have hz83 := ho81.size
                replace hb := hb.out ho81 (by first | omega | (simp only [blk_some, hi1_some] at *; omega))
                replace hf := hf.out ho81 (by first | omega | (simp only [blk_some, hi1_some] at *; omega))
                replace hL := hL.out ho81 (by first | omega | (simp only [blk_some, hi1_some] at *; omega))
                replace hE := hE.step ho81 (by first | omega | (simp only [blk_some, hi1_some] at *; omega))
                replace hMs := hMs.out ho81 (by first | omega | (simp only [blk_some, hi1_some] at *; omega))
                replace hlp2 := hlp2.step ho81 (by first | omega | (simp only [blk_some, hi1_some] at *; omega))
                replace hb15 := hb15.out ho81 (by first | omega | (simp only [blk_some, hi1_some] at *; omega))
                refine rg_end ?_
                refine n_then ?_
                refine wp_seq ?_
                refine rg ?_
                refine st (y_fld fld45_1 rfl) ?_
                refine st (y_lb hb15 na3 rfl rfl) ?_
                refine st (y_geq rfl rfl) ?_
                refine rg_end ?_
                refine n_then ?_
                refine cnd rfl (fun hc8 => ?_) (fun hc8 => ?_)
                ·
                  try simp only [decide_eq_true_eq, decide_eq_false_iff_not, Bool.not_eq_true', Bool.not_eq_false', Bool.and_eq_true, Bool.or_eq_true, Bool.or_eq_false_iff, Bool.cond_true_right, Bool.cond_false_right, Bool.cond_true_left, Bool.cond_false_left, ne_eq, Decidable.not_not, bne_iff_ne, beq_iff_eq, beq_eq_false_iff_ne, Bool.not_true, Bool.not_false] at hc8
                  have hGr1 := hGr.lock (k := el l (k : Int)) (p := (el l (k : Int)).po) hS hkl.1 hkl.2.1 hne (by rw [if_pos hc8])
                  rw [← take_succ_el hc7, ← set_twice (R := R) (x := { el R (el l (k : Int)).rs with ho := t }) hkl.1 (by omega)] at hGr1
                  refine rg ?_
                  refine st (mvP rfl) ?_
                  refine st (y_fld fld45_1 rfl) ?_
                  refine st (y_lb hb15 na3 rfl rfl) ?_
                  refine st (y_nil rfl) ?_
                  refine st (y_fld fld64_1 rfl) ?_
                  refine sd0 (d_se (j := 1) (e' := { el (R.set (el l (k : Int)).rs.toNat { el R (el l (k : Int)).rs with ho := t }) (el l (k : Int)).rs with po := (el l (k : Int)).po }) hr sz3 rfl rfl rfl (by omega) (by simp; omega) (Nat.le_of_ble_eq_true rfl) rfl ?_)
                  intro w84 hs86 ho85 hr'
                  have hrhr := hr.rng
                  clear hr; have hr := hr'; clear hr'
                  have hz87 := ho85.size
                  replace hb := hb.out ho85 (by first | omega | (simp only [blk_some, hi1_some] at *; omega))
                  replace hf := hf.out ho85 (by first | omega | (simp only [blk_some, hi1_some] at *; omega))
                  replace hL := hL.out ho85 (by first | omega | (simp only [blk_some, hi1_some] at *; omega))
                  replace hE := hE.step ho85 (by first | omega | (simp only [blk_some, hi1_some] at *; omega))
                  replace hMs := hMs.out ho85 (by first | omega | (simp only [blk_some, hi1_some] at *; omega))
                  replace hlp2 := hlp2.step ho85 (by first | omega | (simp only [blk_some, hi1_some] at *; omega))
                  replace hb15 := hb15.out ho85 (by first | omega | (simp only [blk_some, hi1_some] at *; omega))
                  refine rg_end ?_
                  refine n_blk ?_
                  refine n_then ?_
                  refine rg ?_
                  refine st (y_add rfl rfl (by omega)) ?_
                  refine st (mvI rfl) ?_
                  refine rg_end ?_
                  exact n_then ⟨(k + 1, _), _, rfl, same_lk rfl (same_h0), ⟨rfl, trivial⟩, ⟨hlp2, by omega, hGr1, hr⟩, by first | omega | (dsimp only; omega)⟩
                ·
                  try simp only [decide_eq_true_eq, decide_eq_false_iff_not, Bool.not_eq_true', Bool.not_eq_false', Bool.and_eq_true, Bool.or_eq_true, Bool.or_eq_false_iff, Bool.cond_true_right, Bool.cond_false_right, Bool.cond_true_left, Bool.cond_false_left, ne_eq, Decidable.not_not, bne_iff_ne, beq_iff_eq, beq_eq_false_iff_ne, Bool.not_true, Bool.not_false] at hc8
                  have hGr1 := hGr.lock (k := el l (k : Int)) (p := (el R (el l (k : Int)).rs).po) hS hkl.1 hkl.2.1 hne (by rw [if_neg (by omega)])
                  rw [← take_succ_el hc7] at hGr1
                  refine wp_skip ?_
                  refine n_blk ?_
                  refine n_then ?_
                  refine rg ?_
                  refine st (y_add rfl rfl (by omega)) ?_
                  refine st (mvI rfl) ?_
                  refine rg_end ?_
                  exact n_then ⟨(k + 1, _), _, rfl, same_lk rfl (same_h0), ⟨rfl, trivial⟩, ⟨hlp2, by omega, hGr1, hr⟩, by first | omega | (dsimp only; omega)⟩
              ·
                try simp only [decide_eq_true_eq, decide_eq_false_iff_not, Bool.not_eq_true', Bool.not_eq_false', Bool.and_eq_true, Bool.or_eq_true, Bool.or_eq_false_iff, Bool.cond_true_right, Bool.cond_false_right, Bool.cond_true_left, Bool.cond_false_left, ne_eq, Decidable.not_not, bne_iff_ne, beq_iff_eq, beq_eq_false_iff_ne, Bool.not_true, Bool.not_false] at hc7
                have hGr := hGr
                rw [take_end hc7] at hGr
                refine wp_exit ?_
                refine e_then (e_then (e_blk (?_)))
                refine n_then ?_
                refine wp_seq ?_
                refine wp_seq ?_
                refine rg ?_
                refine st (mvS rfl) ?_
                refine st (y_len Try.underlying22 rfl) ?_
                refine st (mvI rfl) ?_
                refine rg_end ?_
                refine n_then ?_
                refine wp_block ?_
                refine lp (γ := Nat × List Rs) [18, 103, 104, 105, 106, 107, 108, 109, 110, 111, 112, 113, 114, 115, 116, 117] (fun ⟨k, R⟩ => [(103, .int .i64 (k : Int))]) (fun ⟨k, R⟩ w_ => Out (blk ar) (hi1 ar) w64 w_ ∧ (k : Int) ≤ M.length ∧ GrA S t l (wanF (wan S l) (M.take k)) R ∧ Ow 64 encRs 4 lo hi w_ ar cr R) (fun ⟨k, R⟩ => M.length - k) (0, _) ⟨rfl, trivial⟩ ⟨Out.refl _ _ _, by simp, by simpa [wanF] using hGr, hr⟩ ?_
                rintro ⟨k, R⟩ hav_ w88 ⟨ho89, hk, hGr, hr⟩
                have hlp3 := ho89
                have hz90 := ho89.size
                replace hb := hb.out ho89 (by first | omega | (simp only [blk_some, hi1_some] at *; omega))
                replace hf := hf.out ho89 (by first | omega | (simp only [blk_some, hi1_some] at *; omega))
                replace hL := hL.out ho89 (by first | omega | (simp only [blk_some, hi1_some] at *; omega))
                replace hE := hE.step ho89 (by first | omega | (simp only [blk_some, hi1_some] at *; omega))
                replace hMs := hMs.out ho89 (by first | omega | (simp only [blk_some, hi1_some] at *; omega))
                refine wp_seq ?_
                refine rg ?_
                refine st (y_lss rfl rfl) ?_
                refine rg_end ?_
                refine n_then ?_
                refine wp_seq ?_
                refine cnd rfl (fun hc9 => ?_) (fun hc9 => ?_)
                ·
                  try simp only [decide_eq_true_eq, decide_eq_false_iff_not, Bool.not_eq_true', Bool.not_eq_false', Bool.and_eq_true, Bool.or_eq_true, Bool.or_eq_false_iff, Bool.cond_true_right, Bool.cond_false_right, Bool.cond_true_left, Bool.cond_false_left, ne_eq, Decidable.not_not, bne_iff_ne, beq_iff_eq, beq_eq_false_iff_ne, Bool.not_true, Bool.not_false] at hc9
                  have hfk : 0 ≤ (el M (k : Int)).rs ∧ (el M (k : Int)).rs < S.rs.length ∧ 0 ≤ (el M (k : Int)).pt ∧ (el M (k : Int)).pt < S.rs.length ∧ 0 ≤ (el M (k : Int)).po ∧ (el M (k : Int)).po ≤ 1 := hS.fl.ok _ (by have h := el_mem (l := M) (i := (k : Int)) (by omega) hc9; generalize el M (k : Int) = x at h ⊢; rw [hM] at h; exact (List.mem_filter.1 h).1)
                  have hRl := hGr.1
                  have hGr1 := hGr.flank (f := el M (k : Int)) hfk.2.2.1 hfk.2.2.2.1 hfk.2.2.2.2.1
                  rw [← wanF_step hc9] at hGr1
                  refine wp_skip ?_
                  refine n_then ?_
                  refine wp_seq ?_
                  refine wp_block ?_
                  refine wp_seq ?_
                  refine rg ?_
                  refine st (y_ix hMs sl22 rfl (rfl) rfl (by omega) (by omega)) ?_
                  refine st (y_lw hMs agg35 rfl (by omega) (by omega)) ?_
                  refine sd (d_allocA zer35 ?_)
                  intro b18 w91 hbb18 hs93 ho92 hb18
                  have hz94 := ho92.size
                  replace hb := hb.ext ho92
                  replace hf := hf.ext ho92
                  replace hL := hL.ext ho92
                  replace hE := hE.step ho92 (.inl (Nat.le_refl _))
                  replace hMs := hMs.ext ho92
                  replace hr := hr.ext ho92
                  replace hlp3 := hlp3.step ho92 (.inl (Nat.le_refl _))
                  refine sd0 (d_stN hb18 rfl rfl sz35 rfl rfl ?_)
                  intro w95 hs97 ho96 hb18'
                  clear hb18; have hb18 := hb18'; clear hb18'
                  have hz98 := ho96.size
                  replace hb := hb.out ho96 (by first | omega | (simp only [blk_some, hi1_some] at *; omega))
                  replace hf := hf.out ho96 (by first | omega | (simp only [blk_some, hi1_some] at *; omega))
                  replace hL := hL.out ho96 (by first | omega | (simp only [blk_some, hi1_some] at *; omega))
                  replace hE := hE.step ho96 (by first | omega | (simp only [blk_some, hi1_some] at *; omega))
                  replace hMs := hMs.out ho96 (by first | omega | (simp only [blk_some, hi1_some] at *; omega))
                  have hrnhr := hr.rng
                  replace hr := hr.out ho96 (by first | omega | (simp only [blk_some, hi1_some] at *; omega))
                  replace hlp3 := hlp3.step ho96 (by first | omega | (simp only [blk_some, hi1_some] at *; omega))
                  refine rg_end ?_
                  refine n_then ?_
                  refine rgD 8 (fun w_ => Ext w95 w_) (fun i => false) mixed (by kernel_rfl) ?_
                  intro w99 ho100 hs101
                  refine ⟨ho100, ?_⟩
                  have hx102 := ho100
                  refine tn rfl (fun _ hG => mvP rfl) ?_
                  refine tn rfl (fun _ hG => y_nil rfl) ?_
                  refine tn rfl (fun _ hG => y_fld fld62_0 rfl) ?_
                  refine tn rfl (fun _ hG => y_lb (hb.ext hG) na59 rfl rfl) ?_
                  refine tn rfl (fun _ hG => y_fld fld35_1 rfl) ?_
                  refine tn rfl (fun _ hG => y_lb (hb18.ext hG) na3 rfl rfl) ?_
                  refine tn rfl (fun _ hG => y_fld fld35_2 rfl) ?_
                  refine tn rfl (fun _ hG => y_lb (hb18.ext hG) na3 rfl rfl) ?_
                  refine t_end ?_
                  have hz103 := hx102.size
                  replace hb := hb.ext hx102
                  replace hf := hf.ext hx102
                  replace hL := hL.ext hx102
                  replace hE := hE.step hx102 (.inl (Nat.le_refl _))
                  replace hMs := hMs.ext hx102
                  replace hr := hr.ext hx102
                  replace hlp3 := hlp3.step hx102 (.inl (Nat.le_refl _))
                  replace hb18 := hb18.ext hx102
                  refine st (y_ix hr.sl sl59 rfl (hGr.1.symm) rfl (by omega) (by omega)) ?_
                  refine st (y_fld fld64_1 rfl) ?_
                  refine sd0 (d_se (j := 1) (e' := { el R (el M (k : Int)).pt with po := (el M (k : Int)).po }) hr sz3 rfl rfl rfl (by omega) (by omega) (Nat.le_of_ble_eq_true rfl) rfl ?_)
                  intro w104 hs106 ho105 hr'
                  have hrhr := hr.rng
                  clear hr; have hr := hr'; clear hr'
                  have hz107 := ho105.size
                  replace hb := hb.out ho105 (by first | omega | (simp only [blk_some, hi1_some] at *; omega))
                  replace hf := hf.out ho105 (by first | omega | (simp only [blk_some, hi1_some] at *; omega))
                  replace hL := hL.out ho105 (by first | omega | (simp only [blk_some, hi1_some] at *; omega))
                  replace hE := hE.step ho105 (by first | omega | (simp only [blk_some, hi1_some] at *; omega))
                  replace hMs := hMs.out ho105 (by first | omega | (simp only [blk_some, hi1_some] at *; omega))
                  replace hlp3 := hlp3.step ho105 (by first | omega | (simp only [blk_some, hi1_some] at *; omega))
                  replace hb18 := hb18.out ho105 (by first | omega | (simp only [blk_some, hi1_some] at *; omega))
                  refine rg_end ?_
                  refine n_blk ?_
                  refine n_then ?_
                  refine rg ?_
                  refine st (y_add rfl rfl (by omega)) ?_
                  refine st (mvI rfl) ?_
                  refine rg_end ?_
                  exact n_then ⟨(k + 1, _), _, rfl, same_lk rfl (same_h0), ⟨rfl, trivial⟩, ⟨hlp3, by omega, hGr1, hr⟩, by first | omega | (dsimp only; omega)⟩
                ·
                  try simp only [decide_eq_true_eq, decide_eq_false_iff_not, Bool.not_eq_true', Bool.not_eq_false', Bool.and_eq_true, Bool.or_eq_true, Bool.or_eq_false_iff, Bool.cond_true_right, Bool.cond_false_right, Bool.cond_true_left, Bool.cond_false_left, ne_eq, Decidable.not_not, bne_iff_ne, beq_iff_eq, beq_eq_false_iff_ne, Bool.not_true, Bool.not_false] at hc9
                  rw [take_end hc9] at hGr
                  have hR : R = grantR S t l := by rw [hM] at hGr; exact hGr.done
                  subst hR
                  refine wp_exit ?_
                  refine e_then (e_then (e_blk (?_)))
                  refine n_then ?_
                  refine wp_seq ?_
                  refine rg ?_
                  refine st (asI rfl) ?_
                  refine rg_end ?_
                  refine n_then ?_
                  refine wp_ret ?_
                  refine ret1 (v := (.int .i64 _)) Try.results22 rfl ?_
                  exact ⟨vi he.symm, by rw [grS_ok he]; exact ⟨ar, cr, af, cf, l2, h2, by simpa [grantR_len] using hb, hr, hf, hl2, hh2, hlb, hbh, by omega, hd1, hd2⟩, hE⟩
end Go.Proofs.Ytciljdhihnnfiaa
