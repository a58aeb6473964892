/-
  Walks of the functions, printed by a program out of the code and the loops' relations.
-/
import Derived.Test.YteicgnmggkhlbaaWkD
import Derived.Test.YteicgnmggkhlbaaProg
import Derived.KernelRfl
import Derived.Test.YteicgnmggkhlbaaDk
import Derived.Test.YteicgnmggkhlbaaA1
namespace Go.Proofs.Yteicgnmggkhlbaa
open Go.Wk Go.RowKit
set_option linter.unusedVariables false
set_option linter.unusedSimpArgs false
theorem cl54 : Callable Try.prog 54 := ⟨Try.call54⟩
theorem cl55 : Callable Try.prog 55 := ⟨Try.call55⟩
theorem cl56 : Callable Try.prog 56 := ⟨Try.call56⟩
theorem cl57 : Callable Try.prog 57 := ⟨Try.call57⟩
theorem fld44_0 : FieldOf Try.prog 44 0 0 := fun b o w => by simp [Instr.fieldAt, fieldPlace, Instr.sureAddr, Addr.add_lit]
theorem fld44_1 : FieldOf Try.prog 44 1 1 := fun b o w => by simp [Instr.fieldAt, fieldPlace, Instr.sureAddr, Addr.add_lit]
theorem fld44_2 : FieldOf Try.prog 44 2 2 := fun b o w => by simp [Instr.fieldAt, fieldPlace, Instr.sureAddr, Addr.add_lit]
theorem fld44_3 : FieldOf Try.prog 44 3 3 := fun b o w => by simp [Instr.fieldAt, fieldPlace, Instr.sureAddr, Addr.add_lit]
theorem na22 : NotAgg Try.prog 22 := Try.isAgg22
theorem na3 : NotAgg Try.prog 3 := Try.isAgg3
theorem sl22 : SliceOf Try.prog 22 3 1 := ⟨Try.underlying22, Try.sizeOf3⟩

set_option maxRecDepth 100000 in
theorem prec_isResource_ok (r : Int) (w : World) : Cal Try.prog 56 [.int .i64 r] w (fun v w' => v = .bool (decide (0 ≤ r ∧ r < 144)) ∧ Ext w w') := by
  have hE : Out 0 0 w w := Out.refl _ _ w
  refine enter Try.func56 rfl Try.ntmps56 rfl ?_
  refine wp_seq ?_
  refine rg ?_
  refine st (asB rfl) ?_
  refine rg_end ?_
  refine n_then ?_
  refine wp_seq ?_
  refine rg ?_
  refine st (mvI rfl) ?_
  refine st (y_leq rfl rfl) ?_
  refine st (mvB rfl) ?_
  refine gspL 5 rfl (fun hg1 => ?_) (fun hg1 => ?_)
  ·
    have hg1n := hg1; try simp only [decide_eq_true_eq, decide_eq_false_iff_not, Bool.not_eq_true', Bool.not_eq_false', Bool.and_eq_true, Bool.or_eq_true, Bool.or_eq_false_iff, Bool.cond_true_right, Bool.cond_false_right, Bool.cond_true_left, Bool.cond_false_left, ne_eq, Decidable.not_not, bne_iff_ne, beq_iff_eq, beq_eq_false_iff_ne, Bool.not_true, Bool.not_false] at hg1n
    refine stg rfl rfl hg1 (mvI rfl) ?_
    refine stg rfl rfl hg1 (y_lss rfl rfl) ?_
    refine st (y_pickT rfl hg1 (v := .bool _) rfl) ?_
    refine st (asB rfl) ?_
    refine rg_end ?_
    refine n_then ?_
    refine wp_ret ?_
    refine ret1 (v := (.bool _)) Try.results56 rfl ?_
    exact ⟨vb (by simp only [decide_eq_true_eq, decide_eq_false_iff_not, Bool.not_eq_true', Bool.not_eq_eq_eq_not, Bool.not_true, Bool.false_eq_true, false_iff, true_iff, iff_true, iff_false]; omega), hE⟩
  ·
    have hg1n := hg1; try simp only [decide_eq_true_eq, decide_eq_false_iff_not, Bool.not_eq_true', Bool.not_eq_false', Bool.and_eq_true, Bool.or_eq_true, Bool.or_eq_false_iff, Bool.cond_true_right, Bool.cond_false_right, Bool.cond_true_left, Bool.cond_false_left, ne_eq, Decidable.not_not, bne_iff_ne, beq_iff_eq, beq_eq_false_iff_ne, Bool.not_true, Bool.not_false] at hg1n
    refine sts rfl rfl hg1 ?_
    refine sts rfl rfl hg1 ?_
    refine st (y_pickF rfl hg1 (v := .bool _) rfl) ?_
    refine st (asB rfl) ?_
    refine rg_end ?_
    refine n_then ?_
    refine wp_ret ?_
    refine ret1 (v := (.bool _)) Try.results56 rfl ?_
    exact ⟨vb (by simp only [decide_eq_true_eq, decide_eq_false_iff_not, Bool.not_eq_true', Bool.not_eq_eq_eq_not, Bool.not_true, Bool.false_eq_true, false_iff, true_iff, iff_true, iff_false]; omega), hE⟩

set_option maxRecDepth 100000 in
theorem prec_isClock_ok (r : Int) (w : World) : Cal Try.prog 57 [.int .i64 r] w (fun v w' => v = .bool (decide (0 ≤ r ∧ r ≤ 4194304)) ∧ Ext w w') := by
  have hE : Out 0 0 w w := Out.refl _ _ w
  refine enter Try.func57 rfl Try.ntmps57 rfl ?_
  refine wp_seq ?_
  refine rg ?_
  refine st (asB rfl) ?_
  refine rg_end ?_
  refine n_then ?_
  refine wp_seq ?_
  refine rg ?_
  refine st (mvI rfl) ?_
  refine st (y_leq rfl rfl) ?_
  refine st (mvB rfl) ?_
  refine gspL 5 rfl (fun hg1 => ?_) (fun hg1 => ?_)
  ·
    have hg1n := hg1; try simp only [decide_eq_true_eq, decide_eq_false_iff_not, Bool.not_eq_true', Bool.not_eq_false', Bool.and_eq_true, Bool.or_eq_true, Bool.or_eq_false_iff, Bool.cond_true_right, Bool.cond_false_right, Bool.cond_true_left, Bool.cond_false_left, ne_eq, Decidable.not_not, bne_iff_ne, beq_iff_eq, beq_eq_false_iff_ne, Bool.not_true, Bool.not_false] at hg1n
    refine stg rfl rfl hg1 (mvI rfl) ?_
    refine stg rfl rfl hg1 (y_leq rfl rfl) ?_
    refine st (y_pickT rfl hg1 (v := .bool _) rfl) ?_
    refine st (asB rfl) ?_
    refine rg_end ?_
    refine n_then ?_
    refine wp_ret ?_
    refine ret1 (v := (.bool _)) Try.results57 rfl ?_
    exact ⟨vb (by simp only [decide_eq_true_eq, decide_eq_false_iff_not, Bool.not_eq_true', Bool.not_eq_eq_eq_not, Bool.not_true, Bool.false_eq_true, false_iff, true_iff, iff_true, iff_false]; omega), hE⟩
  ·
    have hg1n := hg1; try simp only [decide_eq_true_eq, decide_eq_false_iff_not, Bool.not_eq_true', Bool.not_eq_false', Bool.and_eq_true, Bool.or_eq_true, Bool.or_eq_false_iff, Bool.cond_true_right, Bool.cond_false_right, Bool.cond_true_left, Bool.cond_false_left, ne_eq, Decidable.not_not, bne_iff_ne, beq_iff_eq, beq_eq_false_iff_ne, Bool.not_true, Bool.not_false] at hg1n
    refine sts rfl rfl hg1 ?_
    refine sts rfl rfl hg1 ?_
    refine st (y_pickF rfl hg1 (v := .bool _) rfl) ?_
    refine st (asB rfl) ?_
    refine rg_end ?_
    refine n_then ?_
    refine wp_ret ?_
    refine ret1 (v := (.bool _)) Try.results57 rfl ?_
    exact ⟨vb (by simp only [decide_eq_true_eq, decide_eq_false_iff_not, Bool.not_eq_true', Bool.not_eq_eq_eq_not, Bool.not_true, Bool.false_eq_true, false_iff, true_iff, iff_true, iff_false]; omega), hE⟩

set_option maxRecDepth 100000 in
theorem ref35_resource_ok (r : Int) (w : World) : Cal Try.prog 54 [.int .i64 r] w (fun v w' => v = .bool (decide (0 ≤ r ∧ r < 144)) ∧ Ext w w') := by
  have hE : Out 0 0 w w := Out.refl _ _ w
  refine enter Try.func54 rfl Try.ntmps54 rfl ?_
  refine wp_seq ?_
  refine rg ?_
  refine st (asB rfl) ?_
  refine rg_end ?_
  refine n_then ?_
  refine wp_seq ?_
  refine rg ?_
  refine st (mvI rfl) ?_
  refine st (y_geq rfl rfl) ?_
  refine st (mvB rfl) ?_
  refine gspL 5 rfl (fun hg1 => ?_) (fun hg1 => ?_)
  ·
    have hg1n := hg1; try simp only [decide_eq_true_eq, decide_eq_false_iff_not, Bool.not_eq_true', Bool.not_eq_false', Bool.and_eq_true, Bool.or_eq_true, Bool.or_eq_false_iff, Bool.cond_true_right, Bool.cond_false_right, Bool.cond_true_left, Bool.cond_false_left, ne_eq, Decidable.not_not, bne_iff_ne, beq_iff_eq, beq_eq_false_iff_ne, Bool.not_true, Bool.not_false] at hg1n
    refine stg rfl rfl hg1 (mvI rfl) ?_
    refine stg rfl rfl hg1 (y_lss rfl rfl) ?_
    refine st (y_pickT rfl hg1 (v := .bool _) rfl) ?_
    refine st (asB rfl) ?_
    refine rg_end ?_
    refine n_then ?_
    refine wp_ret ?_
    refine ret1 (v := (.bool _)) Try.results54 rfl ?_
    exact ⟨vb (by simp only [decide_eq_true_eq, decide_eq_false_iff_not, Bool.not_eq_true', Bool.not_eq_eq_eq_not, Bool.not_true, Bool.false_eq_true, false_iff, true_iff, iff_true, iff_false]; omega), hE⟩
  ·
    have hg1n := hg1; try simp only [decide_eq_true_eq, decide_eq_false_iff_not, Bool.not_eq_true', Bool.not_eq_false', Bool.and_eq_true, Bool.or_eq_true, Bool.or_eq_false_iff, Bool.cond_true_right, Bool.cond_false_right, Bool.cond_true_left, Bool.cond_false_left, ne_eq, Decidable.not_not, bne_iff_ne, beq_iff_eq, beq_eq_false_iff_ne, Bool.not_true, Bool.not_false] at hg1n
    refine sts rfl rfl hg1 ?_
    refine sts rfl rfl hg1 ?_
    refine st (y_pickF rfl hg1 (v := .bool _) rfl) ?_
    refine st (asB rfl) ?_
    refine rg_end ?_
    refine n_then ?_
    refine wp_ret ?_
    refine ret1 (v := (.bool _)) Try.results54 rfl ?_
    exact ⟨vb (by simp only [decide_eq_true_eq, decide_eq_false_iff_not, Bool.not_eq_true', Bool.not_eq_eq_eq_not, Bool.not_true, Bool.false_eq_true, false_iff, true_iff, iff_true, iff_false]; omega), hE⟩

set_option maxRecDepth 100000 in
theorem ref35_seconds_ok (r : Int) (w : World) : Cal Try.prog 55 [.int .i64 r] w (fun v w' => v = .bool (decide (0 ≤ r ∧ r ≤ 4194304)) ∧ Ext w w') := by
  have hE : Out 0 0 w w := Out.refl _ _ w
  refine enter Try.func55 rfl Try.ntmps55 rfl ?_
  refine wp_seq ?_
  refine rg ?_
  refine st (asB rfl) ?_
  refine rg_end ?_
  refine n_then ?_
  refine wp_seq ?_
  refine rg ?_
  refine st (mvI rfl) ?_
  refine st (y_geq rfl rfl) ?_
  refine st (mvB rfl) ?_
  refine gspL 5 rfl (fun hg1 => ?_) (fun hg1 => ?_)
  ·
    have hg1n := hg1; try simp only [decide_eq_true_eq, decide_eq_false_iff_not, Bool.not_eq_true', Bool.not_eq_false', Bool.and_eq_true, Bool.or_eq_true, Bool.or_eq_false_iff, Bool.cond_true_right, Bool.cond_false_right, Bool.cond_true_left, Bool.cond_false_left, ne_eq, Decidable.not_not, bne_iff_ne, beq_iff_eq, beq_eq_false_iff_ne, Bool.not_true, Bool.not_false] at hg1n
    refine stg rfl rfl hg1 (mvI rfl) ?_
    refine stg rfl rfl hg1 (y_leq rfl rfl) ?_
    refine st (y_pickT rfl hg1 (v := .bool _) rfl) ?_
    refine st (asB rfl) ?_
    refine rg_end ?_
    refine n_then ?_
    refine wp_ret ?_
    refine ret1 (v := (.bool _)) Try.results55 rfl ?_
    exact ⟨vb (by simp only [decide_eq_true_eq, decide_eq_false_iff_not, Bool.not_eq_true', Bool.not_eq_eq_eq_not, Bool.not_true, Bool.false_eq_true, false_iff, true_iff, iff_true, iff_false]; omega), hE⟩
  ·
    have hg1n := hg1; try simp only [decide_eq_true_eq, decide_eq_false_iff_not, Bool.not_eq_true', Bool.not_eq_false', Bool.and_eq_true, Bool.or_eq_true, Bool.or_eq_false_iff, Bool.cond_true_right, Bool.cond_false_right, Bool.cond_true_left, Bool.cond_false_left, ne_eq, Decidable.not_not, bne_iff_ne, beq_iff_eq, beq_eq_false_iff_ne, Bool.not_true, Bool.not_false] at hg1n
    refine sts rfl rfl hg1 ?_
    refine sts rfl rfl hg1 ?_
    refine st (y_pickF rfl hg1 (v := .bool _) rfl) ?_
    refine st (asB rfl) ?_
    refine rg_end ?_
    refine n_then ?_
    refine wp_ret ?_
    refine ret1 (v := (.bool _)) Try.results55 rfl ?_
    exact ⟨vb (by simp only [decide_eq_true_eq, decide_eq_false_iff_not, Bool.not_eq_true', Bool.not_eq_eq_eq_not, Bool.not_true, Bool.false_eq_true, false_iff, true_iff, iff_true, iff_false]; omega), hE⟩

set_option maxHeartbeats 1000000 in
set_option maxRecDepth 100000 in
theorem prec_isStage_ok (s : Sg) (lo hi : Nat) (w : World) (hPt : Ints lo hi w s.pa s.pts) (hsn : (s.pts.length : Int) ≤ 9223372036854775807) : Cal Try.prog 53 [.agg (encSg s).toArray] w (fun v w' => ∃ b, v = .bool b ∧ (b = true ↔ SgOk s) ∧ Ext w w') := by
  replace hPt := Ints.full hPt
  have hE : Out 0 0 w w := Out.refl _ _ w
  refine enter Try.func53 rfl Try.ntmps53 rfl ?_
  refine wp_seq ?_
  refine rg ?_
  refine sd (d_boxA rfl ?_)
  intro b1 w1 hbb1 hs3 ho2 hb1
  have hz4 := ho2.size
  replace hPt := hPt.ext ho2
  replace hE := hE.step ho2 (.inl (Nat.le_refl _))
  refine st (asB rfl) ?_
  refine rg_end ?_
  refine n_then ?_
  refine wp_seq ?_
  refine wp_seq ?_
  refine rg ?_
  refine st (y_fld fld44_0 rfl) ?_
  refine st (y_lb hb1 na3 rfl rfl) ?_
  refine sc cl56 (prec_isResource_ok _ _) rfl ?_
  rintro v9 w5 ⟨rfl, ho6⟩
  have hz10 := ho6.size
  replace hPt := hPt.ext ho6
  replace hE := hE.step ho6 (.inl (Nat.le_refl _))
  replace hb1 := hb1.ext ho6
  refine st (y_not rfl) ?_
  refine st (mvB rfl) ?_
  refine gspL 9 rfl (fun hg11 => ?_) (fun hg11 => ?_)
  ·
    have hg11n := hg11; try simp only [decide_eq_true_eq, decide_eq_false_iff_not, Bool.not_eq_true', Bool.not_eq_false', Bool.and_eq_true, Bool.or_eq_true, Bool.or_eq_false_iff, Bool.cond_true_right, Bool.cond_false_right, Bool.cond_true_left, Bool.cond_false_left, ne_eq, Decidable.not_not, bne_iff_ne, beq_iff_eq, beq_eq_false_iff_ne, Bool.not_true, Bool.not_false] at hg11n
    refine sts rfl rfl hg11 ?_
    refine sts rfl rfl hg11 ?_
    refine sts rfl rfl hg11 ?_
    refine sts rfl rfl hg11 ?_
    refine st (y_pickT rfl hg11 (v := .bool _) rfl) ?_
    refine rg_end ?_
    refine n_then ?_
    refine cnd rfl (fun hc0 => ?_) (fun hc0 => absurd hc0 (by decide))
    have hno : ¬ SgOk s := fun h => by
      have := h.s0
      have := h.s1
      have := h.p2
      have := h.m0
      have := h.m1
      have := h.n0
      have := h.n1
      omega
    refine wp_seq ?_
    refine rg ?_
    refine st (asB rfl) ?_
    refine rg_end ?_
    refine n_then ?_
    refine wp_ret ?_
    refine r_then (ret1 (v := (.bool _)) Try.results53 rfl ?_)
    exact ⟨false, rfl, ⟨fun h => (by cases h), fun h => absurd h hno⟩, hE⟩
  ·
    have hg11n := hg11; try simp only [decide_eq_true_eq, decide_eq_false_iff_not, Bool.not_eq_true', Bool.not_eq_false', Bool.and_eq_true, Bool.or_eq_true, Bool.or_eq_false_iff, Bool.cond_true_right, Bool.cond_false_right, Bool.cond_true_left, Bool.cond_false_left, ne_eq, Decidable.not_not, bne_iff_ne, beq_iff_eq, beq_eq_false_iff_ne, Bool.not_true, Bool.not_false] at hg11n
    refine stg rfl rfl hg11 (y_fld fld44_1 rfl) ?_
    refine stg rfl rfl hg11 (y_lb hb1 na22 rfl rfl) ?_
    refine stg rfl rfl hg11 (y_len Try.underlying22 rfl) ?_
    refine stg rfl rfl hg11 (y_gtr rfl rfl) ?_
    refine st (y_pickF rfl hg11 (v := .bool _) rfl) ?_
    refine rg_end ?_
    refine n_then ?_
    refine cnd rfl (fun hc0 => ?_) (fun hc0 => ?_)
    ·
      try simp only [decide_eq_true_eq, decide_eq_false_iff_not, Bool.not_eq_true', Bool.not_eq_false', Bool.and_eq_true, Bool.or_eq_true, Bool.or_eq_false_iff, Bool.cond_true_right, Bool.cond_false_right, Bool.cond_true_left, Bool.cond_false_left, ne_eq, Decidable.not_not, bne_iff_ne, beq_iff_eq, beq_eq_false_iff_ne, Bool.not_true, Bool.not_false] at hc0
      have hno : ¬ SgOk s := fun h => by
        have := h.s0
        have := h.s1
        have := h.p2
        have := h.m0
        have := h.m1
        have := h.n0
        have := h.n1
        omega
      refine wp_seq ?_
      refine rg ?_
      refine st (asB rfl) ?_
      refine rg_end ?_
      refine n_then ?_
      refine wp_ret ?_
      refine r_then (ret1 (v := (.bool _)) Try.results53 rfl ?_)
      exact ⟨false, rfl, ⟨fun h => (by cases h), fun h => absurd h hno⟩, hE⟩
    ·
      try simp only [decide_eq_true_eq, decide_eq_false_iff_not, Bool.not_eq_true', Bool.not_eq_false', Bool.and_eq_true, Bool.or_eq_true, Bool.or_eq_false_iff, Bool.cond_true_right, Bool.cond_false_right, Bool.cond_true_left, Bool.cond_false_left, ne_eq, Decidable.not_not, bne_iff_ne, beq_iff_eq, beq_eq_false_iff_ne, Bool.not_true, Bool.not_false] at hc0
      refine wp_skip ?_
      refine n_then ?_
      refine wp_seq ?_
      refine wp_seq ?_
      refine rg ?_
      refine st (y_fld fld44_1 rfl) ?_
      refine st (y_lb hb1 na22 rfl rfl) ?_
      refine st (y_len Try.underlying22 rfl) ?_
      refine st (mvI rfl) ?_
      refine rg_end ?_
      refine n_then ?_
      refine wp_block ?_
      refine lp (γ := Nat) [2, 3, 4, 18, 19, 20, 21, 22, 23, 24, 25, 26, 27, 28, 29, 30, 31, 32, 33, 34, 35, 36, 37, 38, 39, 40, 41, 42, 43, 44] (fun k => [(18, .int .i64 (k : Int))]) (fun k w_ => Ext w5 w_ ∧ (k : Int) ≤ s.pts.length ∧ ∀ q : Nat, q < k → 0 ≤ el s.pts (q : Int) ∧ el s.pts (q : Int) < 144 ∧ el s.pts (q : Int) ≠ s.sec ∧ (0 < q → el s.pts (q : Int) ≠ el s.pts 0)) (fun k => s.pts.length - k) 0 ⟨rfl, trivial⟩ ⟨Out.refl _ _ _, by omega, fun q hq => by omega⟩ ?_
      rintro k hav_ w12 ⟨ho13, hk_, hpt⟩
      have hlp0 := ho13
      have hz14 := ho13.size
      replace hPt := hPt.ext ho13
      replace hE := hE.step ho13 (.inl (Nat.le_refl _))
      replace hb1 := hb1.ext ho13
      refine wp_seq ?_
      refine rg ?_
      refine st (y_lss rfl rfl) ?_
      refine rg_end ?_
      refine n_then ?_
      refine wp_seq ?_
      refine cnd rfl (fun hc1 => ?_) (fun hc1 => ?_)
      ·
        try simp only [decide_eq_true_eq, decide_eq_false_iff_not, Bool.not_eq_true', Bool.not_eq_false', Bool.and_eq_true, Bool.or_eq_true, Bool.or_eq_false_iff, Bool.cond_true_right, Bool.cond_false_right, Bool.cond_true_left, Bool.cond_false_left, ne_eq, Decidable.not_not, bne_iff_ne, beq_iff_eq, beq_eq_false_iff_ne, Bool.not_true, Bool.not_false] at hc1
        refine wp_skip ?_
        refine n_then ?_
        refine wp_seq ?_
        refine wp_block ?_
        refine wp_seq ?_
        refine rg ?_
        refine st (mvI rfl) ?_
        refine st (y_ix hPt sl22 rfl (rfl) rfl (by omega) (by omega)) ?_
        refine st (y_le hPt na3 rfl (by omega) (by omega) rfl) ?_
        refine st (asI rfl) ?_
        refine st (asI rfl) ?_
        refine rg_end ?_
        refine n_then ?_
        refine wp_seq ?_
        refine rg ?_
        refine st (mvI rfl) ?_
        refine sc cl56 (prec_isResource_ok _ _) rfl ?_
        rintro v19 w15 ⟨rfl, ho16⟩
        have hz20 := ho16.size
        replace hPt := hPt.ext ho16
        replace hE := hE.step ho16 (.inl (Nat.le_refl _))
        replace hb1 := hb1.ext ho16
        replace hlp0 := hlp0.step ho16 (.inl (Nat.le_refl _))
        refine st (y_not rfl) ?_
        refine st (mvB rfl) ?_
        refine gspL 26 rfl (fun hg21 => ?_) (fun hg21 => ?_)
        ·
          have hg21n := hg21; try simp only [decide_eq_true_eq, decide_eq_false_iff_not, Bool.not_eq_true', Bool.not_eq_false', Bool.and_eq_true, Bool.or_eq_true, Bool.or_eq_false_iff, Bool.cond_true_right, Bool.cond_false_right, Bool.cond_true_left, Bool.cond_false_left, ne_eq, Decidable.not_not, bne_iff_ne, beq_iff_eq, beq_eq_false_iff_ne, Bool.not_true, Bool.not_false] at hg21n
          refine sts rfl rfl hg21 ?_
          refine sts rfl rfl hg21 ?_
          refine sts rfl rfl hg21 ?_
          refine sts rfl rfl hg21 ?_
          refine st (y_pickT rfl hg21 (v := .bool _) rfl) ?_
          refine st (mvB rfl) ?_
          refine sts rfl rfl rfl ?_
          refine sts rfl rfl rfl ?_
          refine sts rfl rfl rfl ?_
          refine stu rfl rfl ?_
          refine stu rfl rfl ?_
          refine stu rfl rfl ?_
          refine stu rfl rfl ?_
          refine stu rfl rfl ?_
          refine stu rfl rfl ?_
          refine sts rfl rfl rfl ?_
          refine st (y_pickT rfl rfl (v := .bool _) rfl) ?_
          refine rg_end ?_
          refine n_then ?_
          refine cnd rfl (fun hc2 => ?_) (fun hc2 => absurd hc2 (by decide))
          have hno : ¬ SgOk s := fun h => by
            have h1 := h.pt k (by omega)
            first
            | omega
            | exact absurd (show el s.pts (k : Int) = el s.pts 0 by assumption) (h1.2.2.2 (by omega))
          refine wp_seq ?_
          refine rg ?_
          refine st (asB rfl) ?_
          refine rg_end ?_
          refine n_then ?_
          refine wp_ret ?_
          refine r_blk (r_then (r_then (r_blk (r_then (ret1 (v := (.bool _)) Try.results53 rfl ?_)))))
          exact ⟨false, rfl, ⟨fun h => (by cases h), fun h => absurd h hno⟩, hE⟩
        ·
          have hg21n := hg21; try simp only [decide_eq_true_eq, decide_eq_false_iff_not, Bool.not_eq_true', Bool.not_eq_false', Bool.and_eq_true, Bool.or_eq_true, Bool.or_eq_false_iff, Bool.cond_true_right, Bool.cond_false_right, Bool.cond_true_left, Bool.cond_false_left, ne_eq, Decidable.not_not, bne_iff_ne, beq_iff_eq, beq_eq_false_iff_ne, Bool.not_true, Bool.not_false] at hg21n
          refine stg rfl rfl hg21 (mvI rfl) ?_
          refine stg rfl rfl hg21 (y_fld fld44_0 rfl) ?_
          refine stg rfl rfl hg21 (y_lb hb1 na3 rfl rfl) ?_
          refine stg rfl rfl hg21 (y_eql rfl rfl) ?_
          refine st (y_pickF rfl hg21 (v := .bool _) rfl) ?_
          refine st (mvB rfl) ?_
          refine gspL 32 rfl (fun hg22 => ?_) (fun hg22 => ?_)
          ·
            have hg22n := hg22; try simp only [decide_eq_true_eq, decide_eq_false_iff_not, Bool.not_eq_true', Bool.not_eq_false', Bool.and_eq_true, Bool.or_eq_true, Bool.or_eq_false_iff, Bool.cond_true_right, Bool.cond_false_right, Bool.cond_true_left, Bool.cond_false_left, ne_eq, Decidable.not_not, bne_iff_ne, beq_iff_eq, beq_eq_false_iff_ne, Bool.not_true, Bool.not_false] at hg22n
            refine sts rfl rfl hg22 ?_
            refine sts rfl rfl hg22 ?_
            refine sts rfl rfl hg22 ?_
            refine stu rfl rfl ?_
            refine stu rfl rfl ?_
            refine stu rfl rfl ?_
            refine stu rfl rfl ?_
            refine stu rfl rfl ?_
            refine stu rfl rfl ?_
            refine sts rfl rfl hg22 ?_
            refine st (y_pickT rfl hg22 (v := .bool _) rfl) ?_
            refine rg_end ?_
            refine n_then ?_
            refine cnd rfl (fun hc2 => ?_) (fun hc2 => absurd hc2 (by decide))
            have hno : ¬ SgOk s := fun h => by
              have h1 := h.pt k (by omega)
              first
              | omega
              | exact absurd (show el s.pts (k : Int) = el s.pts 0 by assumption) (h1.2.2.2 (by omega))
            refine wp_seq ?_
            refine rg ?_
            refine st (asB rfl) ?_
            refine rg_end ?_
            refine n_then ?_
            refine wp_ret ?_
            refine r_blk (r_then (r_then (r_blk (r_then (ret1 (v := (.bool _)) Try.results53 rfl ?_)))))
            exact ⟨false, rfl, ⟨fun h => (by cases h), fun h => absurd h hno⟩, hE⟩
          ·
            have hg22n := hg22; try simp only [decide_eq_true_eq, decide_eq_false_iff_not, Bool.not_eq_true', Bool.not_eq_false', Bool.and_eq_true, Bool.or_eq_true, Bool.or_eq_false_iff, Bool.cond_true_right, Bool.cond_false_right, Bool.cond_true_left, Bool.cond_false_left, ne_eq, Decidable.not_not, bne_iff_ne, beq_iff_eq, beq_eq_false_iff_ne, Bool.not_true, Bool.not_false] at hg22n
            refine stg rfl rfl hg22 (mvI rfl) ?_
            refine stg rfl rfl hg22 (y_gtr rfl rfl) ?_
            refine stg rfl rfl hg22 (mvB rfl) ?_
            refine gspL 35 rfl (fun hg23 => ?_) (fun hg23 => ?_)
            ·
              have hg23n := hg23; try simp only [decide_eq_true_eq, decide_eq_false_iff_not, Bool.not_eq_true', Bool.not_eq_false', Bool.and_eq_true, Bool.or_eq_true, Bool.or_eq_false_iff, Bool.cond_true_right, Bool.cond_false_right, Bool.cond_true_left, Bool.cond_false_left, ne_eq, Decidable.not_not, bne_iff_ne, beq_iff_eq, beq_eq_false_iff_ne, Bool.not_true, Bool.not_false] at hg23n
              refine stg rfl rfl hg23 (mvI rfl) ?_
              refine stg rfl rfl hg23 (y_fld fld44_1 rfl) ?_
              refine stg rfl rfl hg23 (y_lb hb1 na22 rfl rfl) ?_
              refine stg rfl rfl hg23 (y_ix hPt sl22 rfl (rfl) rfl (by omega) (by omega)) ?_
              refine stg rfl rfl hg23 (y_le hPt na3 rfl (by omega) (by omega) rfl) ?_
              refine stg rfl rfl hg23 (y_eql rfl rfl) ?_
              refine stg rfl rfl hg22 (y_pickT rfl hg23 (v := .bool _) rfl) ?_
              refine st (y_pickF rfl hg22 (v := .bool _) rfl) ?_
              refine rg_end ?_
              refine n_then ?_
              refine cnd rfl (fun hc2 => ?_) (fun hc2 => ?_)
              ·
                try simp only [decide_eq_true_eq, decide_eq_false_iff_not, Bool.not_eq_true', Bool.not_eq_false', Bool.and_eq_true, Bool.or_eq_true, Bool.or_eq_false_iff, Bool.cond_true_right, Bool.cond_false_right, Bool.cond_true_left, Bool.cond_false_left, ne_eq, Decidable.not_not, bne_iff_ne, beq_iff_eq, beq_eq_false_iff_ne, Bool.not_true, Bool.not_false] at hc2
                have hno : ¬ SgOk s := fun h => by
                  have h1 := h.pt k (by omega)
                  first
                  | omega
                  | exact absurd (show el s.pts (k : Int) = el s.pts 0 by assumption) (h1.2.2.2 (by omega))
                refine wp_seq ?_
                refine rg ?_
                refine st (asB rfl) ?_
                refine rg_end ?_
                refine n_then ?_
                refine wp_ret ?_
                refine r_blk (r_then (r_then (r_blk (r_then (ret1 (v := (.bool _)) Try.results53 rfl ?_)))))
                exact ⟨false, rfl, ⟨fun h => (by cases h), fun h => absurd h hno⟩, hE⟩
              ·
                try simp only [decide_eq_true_eq, decide_eq_false_iff_not, Bool.not_eq_true', Bool.not_eq_false', Bool.and_eq_true, Bool.or_eq_true, Bool.or_eq_false_iff, Bool.cond_true_right, Bool.cond_false_right, Bool.cond_true_left, Bool.cond_false_left, ne_eq, Decidable.not_not, bne_iff_ne, beq_iff_eq, beq_eq_false_iff_ne, Bool.not_true, Bool.not_false] at hc2
                have hpt1 : ∀ q : Nat, q < k + 1 → 0 ≤ el s.pts (q : Int) ∧ el s.pts (q : Int) < 144 ∧ el s.pts (q : Int) ≠ s.sec ∧ (0 < q → el s.pts (q : Int) ≠ el s.pts 0) := fun q hq => by
                  by_cases e : q = k
                  · subst e; exact ⟨by omega, by omega, by omega, fun h => by first | assumption | omega⟩
                  · exact hpt q (by omega)
                refine wp_skip ?_
                refine n_blk ?_
                refine n_then ?_
                refine rg ?_
                refine st (y_add rfl rfl (by omega)) ?_
                refine st (mvI rfl) ?_
                refine rg_end ?_
                exact n_then ⟨k + 1, _, rfl, same_lk rfl (same_h0), ⟨rfl, trivial⟩, ⟨hlp0, by omega, hpt1⟩, by first | omega | (dsimp only; omega)⟩
            ·
              have hg23n := hg23; try simp only [decide_eq_true_eq, decide_eq_false_iff_not, Bool.not_eq_true', Bool.not_eq_false', Bool.and_eq_true, Bool.or_eq_true, Bool.or_eq_false_iff, Bool.cond_true_right, Bool.cond_false_right, Bool.cond_true_left, Bool.cond_false_left, ne_eq, Decidable.not_not, bne_iff_ne, beq_iff_eq, beq_eq_false_iff_ne, Bool.not_true, Bool.not_false] at hg23n
              refine sts rfl rfl hg23 ?_
              refine sts rfl rfl hg23 ?_
              refine sts rfl rfl hg23 ?_
              refine sts rfl rfl hg23 ?_
              refine sts rfl rfl hg23 ?_
              refine sts rfl rfl hg23 ?_
              refine stg rfl rfl hg22 (y_pickF rfl hg23 (v := .bool _) rfl) ?_
              refine st (y_pickF rfl hg22 (v := .bool _) rfl) ?_
              refine rg_end ?_
              refine n_then ?_
              refine cnd rfl (fun hc2 => absurd hc2 (by decide)) (fun hc2 => ?_)
              have hpt1 : ∀ q : Nat, q < k + 1 → 0 ≤ el s.pts (q : Int) ∧ el s.pts (q : Int) < 144 ∧ el s.pts (q : Int) ≠ s.sec ∧ (0 < q → el s.pts (q : Int) ≠ el s.pts 0) := fun q hq => by
                by_cases e : q = k
                · subst e; exact ⟨by omega, by omega, by omega, fun h => by first | assumption | omega⟩
                · exact hpt q (by omega)
              refine wp_skip ?_
              refine n_blk ?_
              refine n_then ?_
              refine rg ?_
              refine st (y_add rfl rfl (by omega)) ?_
              refine st (mvI rfl) ?_
              refine rg_end ?_
              exact n_then ⟨k + 1, _, rfl, same_lk rfl (same_h0), ⟨rfl, trivial⟩, ⟨hlp0, by omega, hpt1⟩, by first | omega | (dsimp only; omega)⟩
      ·
        try simp only [decide_eq_true_eq, decide_eq_false_iff_not, Bool.not_eq_true', Bool.not_eq_false', Bool.and_eq_true, Bool.or_eq_true, Bool.or_eq_false_iff, Bool.cond_true_right, Bool.cond_false_right, Bool.cond_true_left, Bool.cond_false_left, ne_eq, Decidable.not_not, bne_iff_ne, beq_iff_eq, beq_eq_false_iff_ne, Bool.not_true, Bool.not_false] at hc1
        refine wp_exit ?_
        refine e_then (e_then (e_blk (?_)))
        refine n_then ?_
        refine wp_seq ?_
        refine rg ?_
        refine st (y_fld fld44_2 rfl) ?_
        refine st (y_lb hb1 na3 rfl rfl) ?_
        refine sc cl57 (prec_isClock_ok _ _) rfl ?_
        rintro v28 w24 ⟨rfl, ho25⟩
        have hz29 := ho25.size
        replace hPt := hPt.ext ho25
        replace hE := hE.step ho25 (.inl (Nat.le_refl _))
        replace hb1 := hb1.ext ho25
        refine st (mvB rfl) ?_
        refine gspL 48 rfl (fun hg30 => ?_) (fun hg30 => ?_)
        ·
          have hg30n := hg30; try simp only [decide_eq_true_eq, decide_eq_false_iff_not, Bool.not_eq_true', Bool.not_eq_false', Bool.and_eq_true, Bool.or_eq_true, Bool.or_eq_false_iff, Bool.cond_true_right, Bool.cond_false_right, Bool.cond_true_left, Bool.cond_false_left, ne_eq, Decidable.not_not, bne_iff_ne, beq_iff_eq, beq_eq_false_iff_ne, Bool.not_true, Bool.not_false] at hg30n
          refine stg rfl rfl hg30 (y_fld fld44_3 rfl) ?_
          refine stg rfl rfl hg30 (y_lb hb1 na3 rfl rfl) ?_
          refine scg rfl rfl hg30 cl57 (prec_isClock_ok _ _) rfl ?_
          rintro v35 w31 ⟨rfl, ho32⟩
          have hz36 := ho32.size
          replace hPt := hPt.ext ho32
          replace hE := hE.step ho32 (.inl (Nat.le_refl _))
          replace hb1 := hb1.ext ho32
          refine st (y_pickT rfl hg30 (v := .bool _) rfl) ?_
          refine st (asB rfl) ?_
          refine rg_end ?_
          refine n_then ?_
          refine wp_ret ?_
          refine ret1 (v := (.bool _)) Try.results53 rfl ?_
          first
          | exact ⟨true, rfl, ⟨fun _ => ⟨by omega, by omega, by omega, by omega, by omega, by omega, by omega, fun q hq => hpt q (by omega)⟩, fun _ => rfl⟩, hE⟩
          | exact ⟨_, rfl, ⟨fun h => (by simp only [decide_eq_true_eq, decide_eq_false_iff_not, Bool.not_eq_true', Bool.not_eq_eq_eq_not, Bool.not_true, Bool.false_eq_true, false_iff, true_iff, iff_true, iff_false] at h <;> exact ⟨by omega, by omega, by omega, by omega, by omega, by omega, by omega, fun q hq => hpt q (by omega)⟩), fun h => (by
            have := h.m0
            have := h.m1
            have := h.n0
            have := h.n1
            simp only [decide_eq_true_eq, decide_eq_false_iff_not, Bool.not_eq_true', Bool.not_eq_eq_eq_not, Bool.not_true, Bool.false_eq_true, false_iff, true_iff, iff_true, iff_false]; first | omega | (constructor <;> omega) | simp_all)⟩, hE⟩
        ·
          have hg30n := hg30; try simp only [decide_eq_true_eq, decide_eq_false_iff_not, Bool.not_eq_true', Bool.not_eq_false', Bool.and_eq_true, Bool.or_eq_true, Bool.or_eq_false_iff, Bool.cond_true_right, Bool.cond_false_right, Bool.cond_true_left, Bool.cond_false_left, ne_eq, Decidable.not_not, bne_iff_ne, beq_iff_eq, beq_eq_false_iff_ne, Bool.not_true, Bool.not_false] at hg30n
          refine sts rfl rfl hg30 ?_
          refine sts rfl rfl hg30 ?_
          refine sts rfl rfl hg30 ?_
          refine st (y_pickF rfl hg30 (v := .bool _) rfl) ?_
          refine st (asB rfl) ?_
          refine rg_end ?_
          refine n_then ?_
          refine wp_ret ?_
          refine ret1 (v := (.bool _)) Try.results53 rfl ?_
          first
          | exact ⟨true, rfl, ⟨fun _ => ⟨by omega, by omega, by omega, by omega, by omega, by omega, by omega, fun q hq => hpt q (by omega)⟩, fun _ => rfl⟩, hE⟩
          | exact ⟨_, rfl, ⟨fun h => (by simp only [decide_eq_true_eq, decide_eq_false_iff_not, Bool.not_eq_true', Bool.not_eq_eq_eq_not, Bool.not_true, Bool.false_eq_true, false_iff, true_iff, iff_true, iff_false] at h <;> exact ⟨by omega, by omega, by omega, by omega, by omega, by omega, by omega, fun q hq => hpt q (by omega)⟩), fun h => (by
            have := h.m0
            have := h.m1
            have := h.n0
            have := h.n1
            simp only [decide_eq_true_eq, decide_eq_false_iff_not, Bool.not_eq_true', Bool.not_eq_eq_eq_not, Bool.not_true, Bool.false_eq_true, false_iff, true_iff, iff_true, iff_false]; first | omega | (constructor <;> omega) | simp_all)⟩, hE⟩

set_option maxHeartbeats 1000000 in
set_option maxRecDepth 100000 in
theorem ref35_validStage_ok (s : Sg) (lo hi : Nat) (w : World) (hPt : Ints lo hi w s.pa s.pts) (hsn : (s.pts.length : Int) ≤ 9223372036854775807) : Cal Try.prog 47 [.agg (encSg s).toArray] w (fun v w' => ∃ b, v = .bool b ∧ (b = true ↔ SgOk s) ∧ Ext w w') := by
  replace hPt := Ints.full hPt
  have hE : Out 0 0 w w := Out.refl _ _ w
  refine enter Try.func47 rfl Try.ntmps47 rfl ?_
  refine wp_seq ?_
  refine rg ?_
  refine sd (d_boxA rfl ?_)
  intro b1 w1 hbb1 hs3 ho2 hb1
  have hz4 := ho2.size
  replace hPt := hPt.ext ho2
  replace hE := hE.step ho2 (.inl (Nat.le_refl _))
  refine st (asB rfl) ?_
  refine rg_end ?_
  refine n_then ?_
  refine wp_seq ?_
  refine wp_seq ?_
  refine rg ?_
  refine st (y_fld fld44_0 rfl) ?_
  refine st (y_lb hb1 na3 rfl rfl) ?_
  refine sc cl54 (ref35_resource_ok _ _) rfl ?_
  rintro v9 w5 ⟨rfl, ho6⟩
  have hz10 := ho6.size
  replace hPt := hPt.ext ho6
  replace hE := hE.step ho6 (.inl (Nat.le_refl _))
  replace hb1 := hb1.ext ho6
  refine st (y_not rfl) ?_
  refine st (mvB rfl) ?_
  refine gspL 9 rfl (fun hg11 => ?_) (fun hg11 => ?_)
  ·
    have hg11n := hg11; try simp only [decide_eq_true_eq, decide_eq_false_iff_not, Bool.not_eq_true', Bool.not_eq_false', Bool.and_eq_true, Bool.or_eq_true, Bool.or_eq_false_iff, Bool.cond_true_right, Bool.cond_false_right, Bool.cond_true_left, Bool.cond_false_left, ne_eq, Decidable.not_not, bne_iff_ne, beq_iff_eq, beq_eq_false_iff_ne, Bool.not_true, Bool.not_false] at hg11n
    refine sts rfl rfl hg11 ?_
    refine sts rfl rfl hg11 ?_
    refine sts rfl rfl hg11 ?_
    refine sts rfl rfl hg11 ?_
    refine st (y_pickT rfl hg11 (v := .bool _) rfl) ?_
    refine st (mvB rfl) ?_
    refine sts rfl rfl rfl ?_
    refine sts rfl rfl rfl ?_
    refine sts rfl rfl rfl ?_
    refine sts rfl rfl rfl ?_
    refine st (y_pickT rfl rfl (v := .bool _) rfl) ?_
    refine st (mvB rfl) ?_
    refine sts rfl rfl rfl ?_
    refine sts rfl rfl rfl ?_
    refine sts rfl rfl rfl ?_
    refine sts rfl rfl rfl ?_
    refine st (y_pickT rfl rfl (v := .bool _) rfl) ?_
    refine rg_end ?_
    refine n_then ?_
    refine cnd rfl (fun hc0 => ?_) (fun hc0 => absurd hc0 (by decide))
    have hno : ¬ SgOk s := fun h => by
      have := h.s0
      have := h.s1
      have := h.p2
      have := h.m0
      have := h.m1
      have := h.n0
      have := h.n1
      omega
    refine wp_seq ?_
    refine rg ?_
    refine st (asB rfl) ?_
    refine rg_end ?_
    refine n_then ?_
    refine wp_ret ?_
    refine r_then (ret1 (v := (.bool _)) Try.results47 rfl ?_)
    exact ⟨false, rfl, ⟨fun h => (by cases h), fun h => absurd h hno⟩, hE⟩
  ·
    have hg11n := hg11; try simp only [decide_eq_true_eq, decide_eq_false_iff_not, Bool.not_eq_true', Bool.not_eq_false', Bool.and_eq_true, Bool.or_eq_true, Bool.or_eq_false_iff, Bool.cond_true_right, Bool.cond_false_right, Bool.cond_true_left, Bool.cond_false_left, ne_eq, Decidable.not_not, bne_iff_ne, beq_iff_eq, beq_eq_false_iff_ne, Bool.not_true, Bool.not_false] at hg11n
    refine stg rfl rfl hg11 (y_fld fld44_1 rfl) ?_
    refine stg rfl rfl hg11 (y_lb hb1 na22 rfl rfl) ?_
    refine stg rfl rfl hg11 (y_len Try.underlying22 rfl) ?_
    refine stg rfl rfl hg11 (y_gtr rfl rfl) ?_
    refine st (y_pickF rfl hg11 (v := .bool _) rfl) ?_
    refine st (mvB rfl) ?_
    refine gspL 15 rfl (fun hg12 => ?_) (fun hg12 => ?_)
    ·
      have hg12n := hg12; try simp only [decide_eq_true_eq, decide_eq_false_iff_not, Bool.not_eq_true', Bool.not_eq_false', Bool.and_eq_true, Bool.or_eq_true, Bool.or_eq_false_iff, Bool.cond_true_right, Bool.cond_false_right, Bool.cond_true_left, Bool.cond_false_left, ne_eq, Decidable.not_not, bne_iff_ne, beq_iff_eq, beq_eq_false_iff_ne, Bool.not_true, Bool.not_false] at hg12n
      refine sts rfl rfl hg12 ?_
      refine sts rfl rfl hg12 ?_
      refine sts rfl rfl hg12 ?_
      refine sts rfl rfl hg12 ?_
      refine st (y_pickT rfl hg12 (v := .bool _) rfl) ?_
      refine st (mvB rfl) ?_
      refine sts rfl rfl rfl ?_
      refine sts rfl rfl rfl ?_
      refine sts rfl rfl rfl ?_
      refine sts rfl rfl rfl ?_
      refine st (y_pickT rfl rfl (v := .bool _) rfl) ?_
      refine rg_end ?_
      refine n_then ?_
      refine cnd rfl (fun hc0 => ?_) (fun hc0 => absurd hc0 (by decide))
      have hno : ¬ SgOk s := fun h => by
        have := h.s0
        have := h.s1
        have := h.p2
        have := h.m0
        have := h.m1
        have := h.n0
        have := h.n1
        omega
      refine wp_seq ?_
      refine rg ?_
      refine st (asB rfl) ?_
      refine rg_end ?_
      refine n_then ?_
      refine wp_ret ?_
      refine r_then (ret1 (v := (.bool _)) Try.results47 rfl ?_)
      exact ⟨false, rfl, ⟨fun h => (by cases h), fun h => absurd h hno⟩, hE⟩
    ·
      have hg12n := hg12; try simp only [decide_eq_true_eq, decide_eq_false_iff_not, Bool.not_eq_true', Bool.not_eq_false', Bool.and_eq_true, Bool.or_eq_true, Bool.or_eq_false_iff, Bool.cond_true_right, Bool.cond_false_right, Bool.cond_true_left, Bool.cond_false_left, ne_eq, Decidable.not_not, bne_iff_ne, beq_iff_eq, beq_eq_false_iff_ne, Bool.not_true, Bool.not_false] at hg12n
      refine stg rfl rfl hg12 (y_fld fld44_2 rfl) ?_
      refine stg rfl rfl hg12 (y_lb hb1 na3 rfl rfl) ?_
      refine scg rfl rfl hg12 cl55 (ref35_seconds_ok _ _) rfl ?_
      rintro v17 w13 ⟨rfl, ho14⟩
      have hz18 := ho14.size
      replace hPt := hPt.ext ho14
      replace hE := hE.step ho14 (.inl (Nat.le_refl _))
      replace hb1 := hb1.ext ho14
      refine stg rfl rfl hg12 (y_not rfl) ?_
      refine st (y_pickF rfl hg12 (v := .bool _) rfl) ?_
      refine st (mvB rfl) ?_
      refine gspL 21 rfl (fun hg19 => ?_) (fun hg19 => ?_)
      ·
        have hg19n := hg19; try simp only [decide_eq_true_eq, decide_eq_false_iff_not, Bool.not_eq_true', Bool.not_eq_false', Bool.and_eq_true, Bool.or_eq_true, Bool.or_eq_false_iff, Bool.cond_true_right, Bool.cond_false_right, Bool.cond_true_left, Bool.cond_false_left, ne_eq, Decidable.not_not, bne_iff_ne, beq_iff_eq, beq_eq_false_iff_ne, Bool.not_true, Bool.not_false] at hg19n
        refine sts rfl rfl hg19 ?_
        refine sts rfl rfl hg19 ?_
        refine sts rfl rfl hg19 ?_
        refine sts rfl rfl hg19 ?_
        refine st (y_pickT rfl hg19 (v := .bool _) rfl) ?_
        refine rg_end ?_
        refine n_then ?_
        refine cnd rfl (fun hc0 => ?_) (fun hc0 => absurd hc0 (by decide))
        have hno : ¬ SgOk s := fun h => by
          have := h.s0
          have := h.s1
          have := h.p2
          have := h.m0
          have := h.m1
          have := h.n0
          have := h.n1
          omega
        refine wp_seq ?_
        refine rg ?_
        refine st (asB rfl) ?_
        refine rg_end ?_
        refine n_then ?_
        refine wp_ret ?_
        refine r_then (ret1 (v := (.bool _)) Try.results47 rfl ?_)
        exact ⟨false, rfl, ⟨fun h => (by cases h), fun h => absurd h hno⟩, hE⟩
      ·
        have hg19n := hg19; try simp only [decide_eq_true_eq, decide_eq_false_iff_not, Bool.not_eq_true', Bool.not_eq_false', Bool.and_eq_true, Bool.or_eq_true, Bool.or_eq_false_iff, Bool.cond_true_right, Bool.cond_false_right, Bool.cond_true_left, Bool.cond_false_left, ne_eq, Decidable.not_not, bne_iff_ne, beq_iff_eq, beq_eq_false_iff_ne, Bool.not_true, Bool.not_false] at hg19n
        refine stg rfl rfl hg19 (y_fld fld44_3 rfl) ?_
        refine stg rfl rfl hg19 (y_lb hb1 na3 rfl rfl) ?_
        refine scg rfl rfl hg19 cl55 (ref35_seconds_ok _ _) rfl ?_
        rintro v24 w20 ⟨rfl, ho21⟩
        have hz25 := ho21.size
        replace hPt := hPt.ext ho21
        replace hE := hE.step ho21 (.inl (Nat.le_refl _))
        replace hb1 := hb1.ext ho21
        refine stg rfl rfl hg19 (y_not rfl) ?_
        refine st (y_pickF rfl hg19 (v := .bool _) rfl) ?_
        refine rg_end ?_
        refine n_then ?_
        refine cnd rfl (fun hc0 => ?_) (fun hc0 => ?_)
        ·
          try simp only [decide_eq_true_eq, decide_eq_false_iff_not, Bool.not_eq_true', Bool.not_eq_false', Bool.and_eq_true, Bool.or_eq_true, Bool.or_eq_false_iff, Bool.cond_true_right, Bool.cond_false_right, Bool.cond_true_left, Bool.cond_false_left, ne_eq, Decidable.not_not, bne_iff_ne, beq_iff_eq, beq_eq_false_iff_ne, Bool.not_true, Bool.not_false] at hc0
          have hno : ¬ SgOk s := fun h => by
            have := h.s0
            have := h.s1
            have := h.p2
            have := h.m0
            have := h.m1
            have := h.n0
            have := h.n1
            omega
          refine wp_seq ?_
          refine rg ?_
          refine st (asB rfl) ?_
          refine rg_end ?_
          refine n_then ?_
          refine wp_ret ?_
          refine r_then (ret1 (v := (.bool _)) Try.results47 rfl ?_)
          exact ⟨false, rfl, ⟨fun h => (by cases h), fun h => absurd h hno⟩, hE⟩
        ·
          try simp only [decide_eq_true_eq, decide_eq_false_iff_not, Bool.not_eq_true', Bool.not_eq_false', Bool.and_eq_true, Bool.or_eq_true, Bool.or_eq_false_iff, Bool.cond_true_right, Bool.cond_false_right, Bool.cond_true_left, Bool.cond_false_left, ne_eq, Decidable.not_not, bne_iff_ne, beq_iff_eq, beq_eq_false_iff_ne, Bool.not_true, Bool.not_false] at hc0
          refine wp_skip ?_
          refine n_then ?_
          refine wp_seq ?_
          refine wp_seq ?_
          refine rg ?_
          refine st (y_fld fld44_1 rfl) ?_
          refine st (y_lb hb1 na22 rfl rfl) ?_
          refine st (y_len Try.underlying22 rfl) ?_
          refine st (mvI rfl) ?_
          refine rg_end ?_
          refine n_then ?_
          refine wp_block ?_
          refine lp (γ := Nat) [2, 3, 4, 30, 31, 32, 33, 34, 35, 36, 37, 38, 39, 40, 41, 42, 43, 44, 45, 46, 47, 48, 49, 50, 51, 52, 53, 54, 55, 56] (fun k => [(30, .int .i64 (k : Int))]) (fun k w_ => Ext w20 w_ ∧ (k : Int) ≤ s.pts.length ∧ ∀ q : Nat, q < k → 0 ≤ el s.pts (q : Int) ∧ el s.pts (q : Int) < 144 ∧ el s.pts (q : Int) ≠ s.sec ∧ (0 < q → el s.pts (q : Int) ≠ el s.pts 0)) (fun k => s.pts.length - k) 0 ⟨rfl, trivial⟩ ⟨Out.refl _ _ _, by omega, fun q hq => by omega⟩ ?_
          rintro k hav_ w26 ⟨ho27, hk_, hpt⟩
          have hlp0 := ho27
          have hz28 := ho27.size
          replace hPt := hPt.ext ho27
          replace hE := hE.step ho27 (.inl (Nat.le_refl _))
          replace hb1 := hb1.ext ho27
          refine wp_seq ?_
          refine rg ?_
          refine st (y_lss rfl rfl) ?_
          refine rg_end ?_
          refine n_then ?_
          refine wp_seq ?_
          refine cnd rfl (fun hc1 => ?_) (fun hc1 => ?_)
          ·
            try simp only [decide_eq_true_eq, decide_eq_false_iff_not, Bool.not_eq_true', Bool.not_eq_false', Bool.and_eq_true, Bool.or_eq_true, Bool.or_eq_false_iff, Bool.cond_true_right, Bool.cond_false_right, Bool.cond_true_left, Bool.cond_false_left, ne_eq, Decidable.not_not, bne_iff_ne, beq_iff_eq, beq_eq_false_iff_ne, Bool.not_true, Bool.not_false] at hc1
            refine wp_skip ?_
            refine n_then ?_
            refine wp_seq ?_
            refine wp_block ?_
            refine wp_seq ?_
            refine rg ?_
            refine st (mvI rfl) ?_
            refine st (y_ix hPt sl22 rfl (rfl) rfl (by omega) (by omega)) ?_
            refine st (y_le hPt na3 rfl (by omega) (by omega) rfl) ?_
            refine st (asI rfl) ?_
            refine st (asI rfl) ?_
            refine rg_end ?_
            refine n_then ?_
            refine wp_seq ?_
            refine rg ?_
            refine st (mvI rfl) ?_
            refine sc cl54 (ref35_resource_ok _ _) rfl ?_
            rintro v33 w29 ⟨rfl, ho30⟩
            have hz34 := ho30.size
            replace hPt := hPt.ext ho30
            replace hE := hE.step ho30 (.inl (Nat.le_refl _))
            replace hb1 := hb1.ext ho30
            replace hlp0 := hlp0.step ho30 (.inl (Nat.le_refl _))
            refine st (y_not rfl) ?_
            refine st (mvB rfl) ?_
            refine gspL 38 rfl (fun hg35 => ?_) (fun hg35 => ?_)
            ·
              have hg35n := hg35; try simp only [decide_eq_true_eq, decide_eq_false_iff_not, Bool.not_eq_true', Bool.not_eq_false', Bool.and_eq_true, Bool.or_eq_true, Bool.or_eq_false_iff, Bool.cond_true_right, Bool.cond_false_right, Bool.cond_true_left, Bool.cond_false_left, ne_eq, Decidable.not_not, bne_iff_ne, beq_iff_eq, beq_eq_false_iff_ne, Bool.not_true, Bool.not_false] at hg35n
              refine sts rfl rfl hg35 ?_
              refine sts rfl rfl hg35 ?_
              refine sts rfl rfl hg35 ?_
              refine sts rfl rfl hg35 ?_
              refine st (y_pickT rfl hg35 (v := .bool _) rfl) ?_
              refine st (mvB rfl) ?_
              refine sts rfl rfl rfl ?_
              refine sts rfl rfl rfl ?_
              refine sts rfl rfl rfl ?_
              refine stu rfl rfl ?_
              refine stu rfl rfl ?_
              refine stu rfl rfl ?_
              refine stu rfl rfl ?_
              refine stu rfl rfl ?_
              refine stu rfl rfl ?_
              refine sts rfl rfl rfl ?_
              refine st (y_pickT rfl rfl (v := .bool _) rfl) ?_
              refine rg_end ?_
              refine n_then ?_
              refine cnd rfl (fun hc2 => ?_) (fun hc2 => absurd hc2 (by decide))
              have hno : ¬ SgOk s := fun h => by
                have h1 := h.pt k (by omega)
                first
                | omega
                | exact absurd (show el s.pts (k : Int) = el s.pts 0 by assumption) (h1.2.2.2 (by omega))
              refine wp_seq ?_
              refine rg ?_
              refine st (asB rfl) ?_
              refine rg_end ?_
              refine n_then ?_
              refine wp_ret ?_
              refine r_blk (r_then (r_then (r_blk (r_then (ret1 (v := (.bool _)) Try.results47 rfl ?_)))))
              exact ⟨false, rfl, ⟨fun h => (by cases h), fun h => absurd h hno⟩, hE⟩
            ·
              have hg35n := hg35; try simp only [decide_eq_true_eq, decide_eq_false_iff_not, Bool.not_eq_true', Bool.not_eq_false', Bool.and_eq_true, Bool.or_eq_true, Bool.or_eq_false_iff, Bool.cond_true_right, Bool.cond_false_right, Bool.cond_true_left, Bool.cond_false_left, ne_eq, Decidable.not_not, bne_iff_ne, beq_iff_eq, beq_eq_false_iff_ne, Bool.not_true, Bool.not_false] at hg35n
              refine stg rfl rfl hg35 (mvI rfl) ?_
              refine stg rfl rfl hg35 (y_fld fld44_0 rfl) ?_
              refine stg rfl rfl hg35 (y_lb hb1 na3 rfl rfl) ?_
              refine stg rfl rfl hg35 (y_eql rfl rfl) ?_
              refine st (y_pickF rfl hg35 (v := .bool _) rfl) ?_
              refine st (mvB rfl) ?_
              refine gspL 44 rfl (fun hg36 => ?_) (fun hg36 => ?_)
              ·
                have hg36n := hg36; try simp only [decide_eq_true_eq, decide_eq_false_iff_not, Bool.not_eq_true', Bool.not_eq_false', Bool.and_eq_true, Bool.or_eq_true, Bool.or_eq_false_iff, Bool.cond_true_right, Bool.cond_false_right, Bool.cond_true_left, Bool.cond_false_left, ne_eq, Decidable.not_not, bne_iff_ne, beq_iff_eq, beq_eq_false_iff_ne, Bool.not_true, Bool.not_false] at hg36n
                refine sts rfl rfl hg36 ?_
                refine sts rfl rfl hg36 ?_
                refine sts rfl rfl hg36 ?_
                refine stu rfl rfl ?_
                refine stu rfl rfl ?_
                refine stu rfl rfl ?_
                refine stu rfl rfl ?_
                refine stu rfl rfl ?_
                refine stu rfl rfl ?_
                refine sts rfl rfl hg36 ?_
                refine st (y_pickT rfl hg36 (v := .bool _) rfl) ?_
                refine rg_end ?_
                refine n_then ?_
                refine cnd rfl (fun hc2 => ?_) (fun hc2 => absurd hc2 (by decide))
                have hno : ¬ SgOk s := fun h => by
                  have h1 := h.pt k (by omega)
                  first
                  | omega
                  | exact absurd (show el s.pts (k : Int) = el s.pts 0 by assumption) (h1.2.2.2 (by omega))
                refine wp_seq ?_
                refine rg ?_
                refine st (asB rfl) ?_
                refine rg_end ?_
                refine n_then ?_
                refine wp_ret ?_
                refine r_blk (r_then (r_then (r_blk (r_then (ret1 (v := (.bool _)) Try.results47 rfl ?_)))))
                exact ⟨false, rfl, ⟨fun h => (by cases h), fun h => absurd h hno⟩, hE⟩
              ·
                have hg36n := hg36; try simp only [decide_eq_true_eq, decide_eq_false_iff_not, Bool.not_eq_true', Bool.not_eq_false', Bool.and_eq_true, Bool.or_eq_true, Bool.or_eq_false_iff, Bool.cond_true_right, Bool.cond_false_right, Bool.cond_true_left, Bool.cond_false_left, ne_eq, Decidable.not_not, bne_iff_ne, beq_iff_eq, beq_eq_false_iff_ne, Bool.not_true, Bool.not_false] at hg36n
                refine stg rfl rfl hg36 (mvI rfl) ?_
                refine stg rfl rfl hg36 (y_gtr rfl rfl) ?_
                refine stg rfl rfl hg36 (mvB rfl) ?_
                refine gspL 47 rfl (fun hg37 => ?_) (fun hg37 => ?_)
                ·
                  have hg37n := hg37; try simp only [decide_eq_true_eq, decide_eq_false_iff_not, Bool.not_eq_true', Bool.not_eq_false', Bool.and_eq_true, Bool.or_eq_true, Bool.or_eq_false_iff, Bool.cond_true_right, Bool.cond_false_right, Bool.cond_true_left, Bool.cond_false_left, ne_eq, Decidable.not_not, bne_iff_ne, beq_iff_eq, beq_eq_false_iff_ne, Bool.not_true, Bool.not_false] at hg37n
                  refine stg rfl rfl hg37 (mvI rfl) ?_
                  refine stg rfl rfl hg37 (y_fld fld44_1 rfl) ?_
                  refine stg rfl rfl hg37 (y_lb hb1 na22 rfl rfl) ?_
                  refine stg rfl rfl hg37 (y_ix hPt sl22 rfl (rfl) rfl (by omega) (by omega)) ?_
                  refine stg rfl rfl hg37 (y_le hPt na3 rfl (by omega) (by omega) rfl) ?_
                  refine stg rfl rfl hg37 (y_eql rfl rfl) ?_
                  refine stg rfl rfl hg36 (y_pickT rfl hg37 (v := .bool _) rfl) ?_
                  refine st (y_pickF rfl hg36 (v := .bool _) rfl) ?_
                  refine rg_end ?_
                  refine n_then ?_
                  refine cnd rfl (fun hc2 => ?_) (fun hc2 => ?_)
                  ·
                    try simp only [decide_eq_true_eq, decide_eq_false_iff_not, Bool.not_eq_true', Bool.not_eq_false', Bool.and_eq_true, Bool.or_eq_true, Bool.or_eq_false_iff, Bool.cond_true_right, Bool.cond_false_right, Bool.cond_true_left, Bool.cond_false_left, ne_eq, Decidable.not_not, bne_iff_ne, beq_iff_eq, beq_eq_false_iff_ne, Bool.not_true, Bool.not_false] at hc2
                    have hno : ¬ SgOk s := fun h => by
                      have h1 := h.pt k (by omega)
                      first
                      | omega
                      | exact absurd (show el s.pts (k : Int) = el s.pts 0 by assumption) (h1.2.2.2 (by omega))
                    refine wp_seq ?_
                    refine rg ?_
                    refine st (asB rfl) ?_
                    refine rg_end ?_
                    refine n_then ?_
                    refine wp_ret ?_
                    refine r_blk (r_then (r_then (r_blk (r_then (ret1 (v := (.bool _)) Try.results47 rfl ?_)))))
                    exact ⟨false, rfl, ⟨fun h => (by cases h), fun h => absurd h hno⟩, hE⟩
                  ·
                    try simp only [decide_eq_true_eq, decide_eq_false_iff_not, Bool.not_eq_true', Bool.not_eq_false', Bool.and_eq_true, Bool.or_eq_true, Bool.or_eq_false_iff, Bool.cond_true_right, Bool.cond_false_right, Bool.cond_true_left, Bool.cond_false_left, ne_eq, Decidable.not_not, bne_iff_ne, beq_iff_eq, beq_eq_false_iff_ne, Bool.not_true, Bool.not_false] at hc2
                    have hpt1 : ∀ q : Nat, q < k + 1 → 0 ≤ el s.pts (q : Int) ∧ el s.pts (q : Int) < 144 ∧ el s.pts (q : Int) ≠ s.sec ∧ (0 < q → el s.pts (q : Int) ≠ el s.pts 0) := fun q hq => by
                      by_cases e : q = k
                      · subst e; exact ⟨by omega, by omega, by omega, fun h => by first | assumption | omega⟩
                      · exact hpt q (by omega)
                    refine wp_skip ?_
                    refine n_blk ?_
                    refine n_then ?_
                    refine rg ?_
                    refine st (y_add rfl rfl (by omega)) ?_
                    refine st (mvI rfl) ?_
                    refine rg_end ?_
                    exact n_then ⟨k + 1, _, rfl, same_lk rfl (same_h0), ⟨rfl, trivial⟩, ⟨hlp0, by omega, hpt1⟩, by first | omega | (dsimp only; omega)⟩
                ·
                  have hg37n := hg37; try simp only [decide_eq_true_eq, decide_eq_false_iff_not, Bool.not_eq_true', Bool.not_eq_false', Bool.and_eq_true, Bool.or_eq_true, Bool.or_eq_false_iff, Bool.cond_true_right, Bool.cond_false_right, Bool.cond_true_left, Bool.cond_false_left, ne_eq, Decidable.not_not, bne_iff_ne, beq_iff_eq, beq_eq_false_iff_ne, Bool.not_true, Bool.not_false] at hg37n
                  refine sts rfl rfl hg37 ?_
                  refine sts rfl rfl hg37 ?_
                  refine sts rfl rfl hg37 ?_
                  refine sts rfl rfl hg37 ?_
                  refine sts rfl rfl hg37 ?_
                  refine sts rfl rfl hg37 ?_
                  refine stg rfl rfl hg36 (y_pickF rfl hg37 (v := .bool _) rfl) ?_
                  refine st (y_pickF rfl hg36 (v := .bool _) rfl) ?_
                  refine rg_end ?_
                  refine n_then ?_
                  refine cnd rfl (fun hc2 => absurd hc2 (by decide)) (fun hc2 => ?_)
                  have hpt1 : ∀ q : Nat, q < k + 1 → 0 ≤ el s.pts (q : Int) ∧ el s.pts (q : Int) < 144 ∧ el s.pts (q : Int) ≠ s.sec ∧ (0 < q → el s.pts (q : Int) ≠ el s.pts 0) := fun q hq => by
                    by_cases e : q = k
                    · subst e; exact ⟨by omega, by omega, by omega, fun h => by first | assumption | omega⟩
                    · exact hpt q (by omega)
                  refine wp_skip ?_
                  refine n_blk ?_
                  refine n_then ?_
                  refine rg ?_
                  refine st (y_add rfl rfl (by omega)) ?_
                  refine st (mvI rfl) ?_
                  refine rg_end ?_
                  exact n_then ⟨k + 1, _, rfl, same_lk rfl (same_h0), ⟨rfl, trivial⟩, ⟨hlp0, by omega, hpt1⟩, by first | omega | (dsimp only; omega)⟩
          ·
            try simp only [decide_eq_true_eq, decide_eq_false_iff_not, Bool.not_eq_true', Bool.not_eq_false', Bool.and_eq_true, Bool.or_eq_true, Bool.or_eq_false_iff, Bool.cond_true_right, Bool.cond_false_right, Bool.cond_true_left, Bool.cond_false_left, ne_eq, Decidable.not_not, bne_iff_ne, beq_iff_eq, beq_eq_false_iff_ne, Bool.not_true, Bool.not_false] at hc1
            refine wp_exit ?_
            refine e_then (e_then (e_blk (?_)))
            refine n_then ?_
            refine wp_seq ?_
            refine rg ?_
            refine st (asB rfl) ?_
            refine rg_end ?_
            refine n_then ?_
            refine wp_ret ?_
            refine ret1 (v := (.bool _)) Try.results47 rfl ?_
            first
            | exact ⟨true, rfl, ⟨fun _ => ⟨by omega, by omega, by omega, by omega, by omega, by omega, by omega, fun q hq => hpt q (by omega)⟩, fun _ => rfl⟩, hE⟩
            | exact ⟨_, rfl, ⟨fun h => (by simp only [decide_eq_true_eq, decide_eq_false_iff_not, Bool.not_eq_true', Bool.not_eq_eq_eq_not, Bool.not_true, Bool.false_eq_true, false_iff, true_iff, iff_true, iff_false] at h <;> exact ⟨by omega, by omega, by omega, by omega, by omega, by omega, by omega, fun q hq => hpt q (by omega)⟩), fun h => (by
              have := h.m0
              have := h.m1
              have := h.n0
              have := h.n1
              simp only [decide_eq_true_eq, decide_eq_false_iff_not, Bool.not_eq_true', Bool.not_eq_eq_eq_not, Bool.not_true, Bool.false_eq_true, false_iff, true_iff, iff_true, iff_false]; first | omega | (constructor <;> omega) | simp_all)⟩, hE⟩
end Go.Proofs.Yteicgnmggkhlbaa
