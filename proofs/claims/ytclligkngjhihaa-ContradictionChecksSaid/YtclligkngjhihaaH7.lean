/-
  Walks of the functions, printed by a program out of the code and the loops' relations.
-/
import Derived.Test.YtclligkngjhihaaWkD
import Derived.Test.YtclligkngjhihaaProg
import Derived.KernelRfl
import Derived.Test.YtclligkngjhihaaH6
namespace Go.Proofs.Ytclligkngjhihaa
open Go.Wk Go.RowKit
set_option linter.unusedVariables false
set_option linter.unusedSimpArgs false
theorem cl21 : Callable Try.prog 21 := ⟨Try.call21⟩
theorem cl25 : Callable Try.prog 25 := ⟨Try.call25⟩

set_option maxHeartbeats 1000000 in
set_option maxRecDepth 100000 in
theorem law18_ContradictionNone_ok (a0 : Option Addr) (c0 : Nat) (l0 : List Int) (w : World) (hL0 : Ints 0 w.heap.size w a0 l0) (hl0 : (l0.length : Int) ≤ 9223372036854775807) : Cal Try.prog 6 [.slice a0 l0.length c0] w (fun v w' => v = .bool true ∧ Ext w w') := by
  have hE : Out 0 0 w w := Out.refl _ _ w
  refine enter Try.func6 rfl Try.ntmps6 rfl ?_
  refine wp_seq ?_
  refine rg ?_
  refine st (asB rfl) ?_
  refine rg_end ?_
  refine n_then ?_
  refine wp_seq ?_
  refine rg ?_
  refine st (mvS rfl) ?_
  refine sc cl12 (keep_Slack_ok _ _ _ _ _ _ hL0 hl0) rfl ?_
  rintro v5 w1 ⟨N, A, rfl, hsm, hN, ho2⟩
  have hsn := small_none hsm
  have hz6 := ho2.size
  replace hL0 := hL0.ext ho2
  replace hE := hE.step ho2 (.inl (Nat.le_refl _))
  refine sd (d_allocA zer26 ?_)
  intro b3 w7 hbb3 hs9 ho8 hb3
  have hz10 := ho8.size
  replace hL0 := hL0.ext ho8
  replace hE := hE.step ho8 (.inl (Nat.le_refl _))
  replace hN := hN.ext ho8
  refine sd0 (d_stN hb3 rfl rfl sz26 rfl rfl ?_)
  intro w11 hs13 ho12 hb3'
  clear hb3; have hb3 := hb3'; clear hb3'
  have hz14 := ho12.size
  replace hL0 := hL0.out ho12 (by first | omega | (simp only [blk_some, hi1_some] at *; omega))
  replace hE := hE.step ho12 (by first | omega | (simp only [blk_some, hi1_some] at *; omega))
  replace hN := hN.out ho12 (by first | omega | (simp only [blk_some, hi1_some] at *; omega))
  refine rg_end ?_
  refine n_then ?_
  refine wp_seq ?_
  refine rg ?_
  refine st (y_lbN hb3 agg26 rfl) ?_
  refine sc cl21 (con_Find_ok N A _ _ 1048576 _ hN) rfl ?_
  rintro v19 w15 ⟨aq, cq, aw, cw, rows, rfl, hcq, hQ, hW, hrw, ho16⟩
  have hz20 := ho16.size
  replace hL0 := hL0.ext ho16
  replace hE := hE.step ho16 (.inl (Nat.le_refl _))
  replace hN := hN.ext ho16
  replace hb3 := hb3.ext ho16
  refine st (mvT rfl) ?_
  refine st (y_ext rfl rfl) ?_
  refine st (y_ext rfl rfl) ?_
  refine st (y_ext rfl rfl) ?_
  refine sd (d_allocA zer46 ?_)
  intro b4 w21 hbb4 hs23 ho22 hb4
  have hz24 := ho22.size
  replace hL0 := hL0.ext ho22
  replace hE := hE.step ho22 (.inl (Nat.le_refl _))
  replace hN := hN.ext ho22
  replace hb3 := hb3.ext ho22
  replace hQ := hQ.ext ho22
  replace hW := hW.ext ho22
  refine sd0 (d_stN hb4 rfl rfl sz46 rfl rfl ?_)
  intro w25 hs27 ho26 hb4'
  clear hb4; have hb4 := hb4'; clear hb4'
  have hz28 := ho26.size
  replace hL0 := hL0.out ho26 (by first | omega | (simp only [blk_some, hi1_some] at *; omega))
  replace hE := hE.step ho26 (by first | omega | (simp only [blk_some, hi1_some] at *; omega))
  replace hN := hN.out ho26 (by first | omega | (simp only [blk_some, hi1_some] at *; omega))
  replace hb3 := hb3.out ho26 (by first | omega | (simp only [blk_some, hi1_some] at *; omega))
  replace hQ := hQ.out ho26 (by first | omega | (simp only [blk_some, hi1_some] at *; omega))
  replace hW := hW.out ho26 (by first | omega | (simp only [blk_some, hi1_some] at *; omega))
  refine st (asI rfl) ?_
  refine st (asI rfl) ?_
  refine rg_end ?_
  refine n_then ?_
  refine wp_seq ?_
  refine rg ?_
  refine st (y_lbN hb3 agg26 rfl) ?_
  refine sc cl25 (ref17_Feasible_ok N A _ _ 1048576 _ hN) rfl ?_
  rintro v33 w29 ⟨at1, ct1, rfl, hT1, ho30⟩
  have hz34 := ho30.size
  replace hL0 := hL0.ext ho30
  replace hE := hE.step ho30 (.inl (Nat.le_refl _))
  replace hN := hN.ext ho30
  replace hb3 := hb3.ext ho30
  replace hQ := hQ.ext ho30
  replace hW := hW.ext ho30
  replace hb4 := hb4.ext ho30
  refine st (mvT rfl) ?_
  refine st (y_ext rfl rfl) ?_
  refine st (y_ext rfl rfl) ?_
  refine st (y_ext rfl rfl) ?_
  refine st (asS rfl) ?_
  refine st (asI rfl) ?_
  refine st (asI rfl) ?_
  refine rg_end ?_
  refine n_then ?_
  refine wp_seq ?_
  refine rg ?_
  refine sc cl16 (law18_awake_ok _) rfl ?_
  rintro v39 w35 ⟨rfl, ho36⟩
  have hz40 := ho36.size
  replace hL0 := hL0.ext ho36
  replace hE := hE.step ho36 (.inl (Nat.le_refl _))
  replace hN := hN.ext ho36
  replace hb3 := hb3.ext ho36
  replace hQ := hQ.ext ho36
  replace hW := hW.ext ho36
  replace hb4 := hb4.ext ho36
  replace hT1 := hT1.ext ho36
  refine st (mvB rfl) ?_
  refine stg rfl rfl rfl (mvI rfl) ?_
  refine stg rfl rfl rfl (y_eql rfl rfl) ?_
  refine stg rfl rfl rfl (mvI rfl) ?_
  refine stg rfl rfl rfl (y_eql rfl rfl) ?_
  refine stg rfl rfl rfl (y_eqlB rfl rfl Try.underlying4) ?_
  refine st (y_pickT rfl rfl (v := .bool _) rfl) ?_
  refine st (mvB rfl) ?_
  refine stg rfl rfl (show (decide (cfE N 1048576 = 6) == decide (findE N false 1048576 = 0)) = true by rcases hsn with h | h <;> simp [h.1, h.2]) (mvI rfl) ?_
  refine stg rfl rfl (show (decide (cfE N 1048576 = 6) == decide (findE N false 1048576 = 0)) = true by rcases hsn with h | h <;> simp [h.1, h.2]) (y_eql rfl rfl) ?_
  refine stg rfl rfl (show (decide (cfE N 1048576 = 6) == decide (findE N false 1048576 = 0)) = true by rcases hsn with h | h <;> simp [h.1, h.2]) (mvB rfl) ?_
  refine gspL 35 rfl (fun hg41 => ?_) (fun hg41 => ?_)
  ·
    have hg41n := hg41; try simp only [decide_eq_true_eq, decide_eq_false_iff_not, Bool.not_eq_true', Bool.not_eq_false', Bool.and_eq_true, Bool.or_eq_true, Bool.or_eq_false_iff, Bool.cond_true_right, Bool.cond_false_right, Bool.cond_true_left, Bool.cond_false_left, ne_eq, Decidable.not_not, bne_iff_ne, beq_iff_eq, beq_eq_false_iff_ne, Bool.not_true, Bool.not_false] at hg41n
    refine sts rfl rfl hg41 ?_
    refine sts rfl rfl hg41 ?_
    refine stg rfl rfl (show (decide (cfE N 1048576 = 6) == decide (findE N false 1048576 = 0)) = true by rcases hsn with h | h <;> simp [h.1, h.2]) (y_pickT rfl hg41 (v := .bool _) rfl) ?_
    refine st (y_pickT rfl (show (decide (cfE N 1048576 = 6) == decide (findE N false 1048576 = 0)) = true by rcases hsn with h | h <;> simp [h.1, h.2]) (v := .bool _) rfl) ?_
    refine st (asB rfl) ?_
    refine rg_end ?_
    refine n_then ?_
    refine wp_ret ?_
    refine ret1 (v := (.bool _)) Try.results6 rfl ?_
    first
      | exact ⟨rfl, hE⟩
      | exact ⟨vb (by simp; omega), hE⟩
      | exact ⟨vb (by simp; done), hE⟩
  ·
    have hg41n := hg41; try simp only [decide_eq_true_eq, decide_eq_false_iff_not, Bool.not_eq_true', Bool.not_eq_false', Bool.and_eq_true, Bool.or_eq_true, Bool.or_eq_false_iff, Bool.cond_true_right, Bool.cond_false_right, Bool.cond_true_left, Bool.cond_false_left, ne_eq, Decidable.not_not, bne_iff_ne, beq_iff_eq, beq_eq_false_iff_ne, Bool.not_true, Bool.not_false] at hg41n
    refine stg rfl rfl hg41 (mvI rfl) ?_
    refine stg rfl rfl hg41 (y_eql rfl rfl) ?_
    refine stg rfl rfl (show (decide (cfE N 1048576 = 6) == decide (findE N false 1048576 = 0)) = true by rcases hsn with h | h <;> simp [h.1, h.2]) (y_pickF rfl hg41 (v := .bool _) rfl) ?_
    refine st (y_pickT rfl (show (decide (cfE N 1048576 = 6) == decide (findE N false 1048576 = 0)) = true by rcases hsn with h | h <;> simp [h.1, h.2]) (v := .bool _) rfl) ?_
    refine st (asB rfl) ?_
    refine rg_end ?_
    refine n_then ?_
    refine wp_ret ?_
    refine ret1 (v := (.bool _)) Try.results6 rfl ?_
    first
      | exact ⟨rfl, hE⟩
      | exact ⟨vb (by simp; omega), hE⟩
      | exact ⟨vb (by simp; done), hE⟩
end Go.Proofs.Ytclligkngjhihaa
