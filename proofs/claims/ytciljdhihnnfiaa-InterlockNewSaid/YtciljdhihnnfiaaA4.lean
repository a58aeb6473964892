/-
  Walks of the functions, printed by a program out of the code and the loops' relations.
-/
import Derived.Test.YtciljdhihnnfiaaWkD
import Derived.Test.YtciljdhihnnfiaaProg
import Derived.KernelRfl
import Derived.Test.YtciljdhihnnfiaaKeep
import Derived.Test.YtciljdhihnnfiaaA1
import Derived.Test.YtciljdhihnnfiaaA2
import Derived.Test.YtciljdhihnnfiaaA3
namespace Go.Proofs.Ytciljdhihnnfiaa
open Go.Wk Go.RowKit
set_option linter.unusedVariables false
set_option linter.unusedSimpArgs false
theorem bld69_0 (d0 : Option Addr) (l0 : Nat) (c0 : Nat) (w : World) : (Instr.build 69 [(0, (.slice d0 l0 c0))].toArray).run Try.prog w = .ok (.agg [(.slice d0 l0 c0), .int .i64 0].toArray) w := by kernel_rfl
theorem cl21 : Callable Try.prog 21 := ⟨Try.call21⟩
theorem fld69_0 : FieldOf Try.prog 69 0 0 := fun b o w => by simp [Instr.fieldAt, fieldPlace, Instr.sureAddr, Addr.add_lit]
theorem fld69_1 : FieldOf Try.prog 69 1 1 := fun b o w => by simp [Instr.fieldAt, fieldPlace, Instr.sureAddr, Addr.add_lit]
theorem mixed : Try.prog.follows .mixedOrders = true := by kernel_rfl
theorem na23 : NotAgg Try.prog 23 := Try.isAgg23
theorem na3 : NotAgg Try.prog 3 := Try.isAgg3
theorem sl23 : SliceOf Try.prog 23 3 1 := ⟨Try.underlying23, Try.sizeOf3⟩
theorem sz3 : SzOf Try.prog 3 1 := Try.sizeOf3

set_option maxRecDepth 100000 in
theorem keep_Pick_ok (v n : Int) (w : World) (h1 : 1 ≤ n) (h2 : n ≤ 9223372036854775807) : Cal Try.prog 21 [.int .i64 v, .int .i64 n] w (fun r w' => r = .int .i64 (pick v n) ∧ Ext w w') := by
  have e2 : IntKind.u64.wrap n = n := IntWalk.u64_in n (by omega)
  have hE : Out 0 0 w w := Out.refl _ _ w
  refine enter Try.func21 rfl Try.ntmps21 rfl ?_
  refine wp_seq ?_
  refine rg ?_
  refine st (asI rfl) ?_
  refine rg_end ?_
  refine n_then ?_
  refine wp_seq ?_
  refine rg ?_
  refine st (mvI rfl) ?_
  refine st (y_conv rfl rfl Try.underlying71) ?_
  refine st (mvI rfl) ?_
  refine st (y_conv rfl rfl Try.underlying71) ?_
  refine st (y_rem rfl rfl (by rw [e2]; omega)) ?_
  refine st (y_conv rfl rfl Try.underlying3) ?_
  refine st (asI rfl) ?_
  refine rg_end ?_
  refine n_then ?_
  refine wp_ret ?_
  refine ret1 (v := (.int .i64 _)) Try.results21 rfl ?_
  exact ⟨vi (pick_run v n h1 h2), hE⟩

set_option maxRecDepth 100000 in
theorem keep_From_ok (al : Option Addr) (cl : Nat) (l : List Int) (lo hi : Nat) (w : World) (hL : Ints lo hi w al l) (hn : (l.length : Int) ≤ 9223372036854775807) : Cal Try.prog 12 [.slice al l.length cl] w (fun v w' => ∃ b, v = .pointer (some ⟨b, 0, none⟩) ∧ b = w.heap.size ∧ w'.heap.size = b + 1 ∧ Src lo hi b w' ∧ Ext w w') := by
  have hE : Out 0 0 w w := Out.refl _ _ w
  refine enter Try.func12 rfl Try.ntmps12 rfl ?_
  refine wp_seq ?_
  refine rg ?_
  refine st (asP rfl) ?_
  refine rg_end ?_
  refine n_then ?_
  refine wp_seq ?_
  refine rg ?_
  refine st (mvS rfl) ?_
  refine st (y_build (bld69_0 _ _ _ _) rfl) ?_
  refine sd (d_boxA rfl ?_)
  intro bl4 w1 hbbl4 hs3 ho2 hbl4
  have hz5 := ho2.size
  replace hL := hL.ext ho2
  replace hE := hE.step ho2 (.inl (Nat.le_refl _))
  refine st (asP rfl) ?_
  refine rg_end ?_
  refine n_then ?_
  refine wp_ret ?_
  refine ret1 (v := (.pointer _)) Try.results12 rfl ?_
  exact ⟨bl4, rfl, hbbl4, hs3, ⟨al, cl, l, 0, hbl4, hL, by omega, by omega, hn⟩, hE⟩

set_option maxRecDepth 100000 in
theorem keep_Next_ok (bs : Nat) (n : Int) (lo hi : Nat) (w : World) (hS : Src lo hi bs w) (hb : bs < lo ∨ hi ≤ bs) (h1 : 1 ≤ n) (h2 : n ≤ 9223372036854775807) : Cal Try.prog 13 [.pointer (some ⟨bs, 0, none⟩), .int .i64 n] w (fun v w' => ∃ r : Int, v = .int .i64 r ∧ 0 ≤ r ∧ r < n ∧ Src lo hi bs w' ∧ Out bs (bs + 1) w w') := by
  obtain ⟨al, cl, l, ps, hbs, hL, p0, p1, p2⟩ := hS
  have hbl := hbs.lt
  have hE : Out bs (bs + 1) w w := Out.refl _ _ w
  refine enter Try.func13 rfl Try.ntmps13 rfl ?_
  refine wp_seq ?_
  refine rg ?_
  refine st (asI rfl) ?_
  refine rg_end ?_
  refine n_then ?_
  refine wp_seq ?_
  refine wp_seq ?_
  refine rgD 9 (fun w_ => Ext w w_) (fun i => false) mixed (by kernel_rfl) ?_
  intro w1 ho2 hs3
  refine ⟨ho2, ?_⟩
  have hx4 := ho2
  refine tn rfl (fun _ hG => mvP rfl) ?_
  refine tn rfl (fun _ hG => y_nil rfl) ?_
  refine tn rfl (fun _ hG => y_fld fld69_1 rfl) ?_
  refine tn rfl (fun _ hG => y_lb (hbs.ext hG) na3 rfl rfl) ?_
  refine tn rfl (fun _ hG => mvP rfl) ?_
  refine tn rfl (fun _ hG => y_nil rfl) ?_
  refine tn rfl (fun _ hG => y_fld fld69_0 rfl) ?_
  refine tn rfl (fun _ hG => y_lb (hbs.ext hG) na23 rfl rfl) ?_
  refine tn rfl (fun _ hG => y_len Try.underlying23 rfl) ?_
  refine t_end ?_
  have hz5 := hx4.size
  replace hbs := hbs.ext hx4
  replace hL := hL.ext hx4
  replace hE := hE.step hx4 (.inl (Nat.le_refl _))
  refine st (y_geq rfl rfl) ?_
  refine rg_end ?_
  refine n_then ?_
  refine cnd rfl (fun hc0 => ?_) (fun hc0 => ?_)
  ·
    try simp only [decide_eq_true_eq, decide_eq_false_iff_not, Bool.not_eq_true', Bool.not_eq_false', Bool.and_eq_true, Bool.or_eq_true, Bool.or_eq_false_iff, Bool.cond_true_right, Bool.cond_false_right, Bool.cond_true_left, Bool.cond_false_left, ne_eq, Decidable.not_not, bne_iff_ne, beq_iff_eq, beq_eq_false_iff_ne, Bool.not_true, Bool.not_false] at hc0
    refine wp_seq ?_
    refine rg ?_
    refine st (asI rfl) ?_
    refine rg_end ?_
    refine n_then ?_
    refine wp_ret ?_
    refine r_then (ret1 (v := (.int .i64 _)) Try.results13 rfl ?_)
    exact ⟨0, rfl, by omega, by omega, ⟨al, cl, l, ps, hbs, hL, p0, p1, p2⟩, hE⟩
  ·
    try simp only [decide_eq_true_eq, decide_eq_false_iff_not, Bool.not_eq_true', Bool.not_eq_false', Bool.and_eq_true, Bool.or_eq_true, Bool.or_eq_false_iff, Bool.cond_true_right, Bool.cond_false_right, Bool.cond_true_left, Bool.cond_false_left, ne_eq, Decidable.not_not, bne_iff_ne, beq_iff_eq, beq_eq_false_iff_ne, Bool.not_true, Bool.not_false] at hc0
    refine wp_skip ?_
    refine n_then ?_
    refine wp_seq ?_
    refine rg ?_
    refine st (mvP rfl) ?_
    refine st (y_nil rfl) ?_
    refine st (y_fld fld69_1 rfl) ?_
    refine st (y_lb hbs na3 rfl rfl) ?_
    refine st (y_add rfl rfl (by omega)) ?_
    refine st (y_nil rfl) ?_
    refine st (y_fld fld69_1 rfl) ?_
    refine sd0 (d_st hbs sz3 rfl rfl rfl (Nat.le_of_ble_eq_true rfl) ?_)
    intro w6 hs8 ho7 hbs'
    clear hbs; have hbs := hbs'; clear hbs'
    have hz9 := ho7.size
    replace hL := hL.out ho7 (by first | omega | (simp only [blk_some, hi1_some] at *; omega))
    replace hE := hE.step ho7 (by first | omega | (simp only [blk_some, hi1_some] at *; omega))
    refine rg_end ?_
    refine n_then ?_
    refine wp_seq ?_
    refine rgD 12 (fun w_ => Ext w6 w_) (fun i => false) mixed (by kernel_rfl) ?_
    intro w10 ho11 hs12
    refine ⟨ho11, ?_⟩
    have hx13 := ho11
    refine tn rfl (fun _ hG => mvP rfl) ?_
    refine tn rfl (fun _ hG => y_nil rfl) ?_
    refine tn rfl (fun _ hG => y_fld fld69_0 rfl) ?_
    refine tn rfl (fun _ hG => y_lb (hbs.ext hG) na23 rfl rfl) ?_
    refine tn rfl (fun _ hG => mvP rfl) ?_
    refine tn rfl (fun _ hG => y_nil rfl) ?_
    refine tn rfl (fun _ hG => y_fld fld69_1 rfl) ?_
    refine tn rfl (fun _ hG => y_lb (hbs.ext hG) na3 rfl rfl) ?_
    refine tn rfl (fun _ hG => y_sub rfl rfl (by omega)) ?_
    refine tn rfl (fun _ hG => y_ix (hL.ext hG) sl23 rfl (rfl) rfl (by omega) (by omega)) ?_
    refine tn rfl (fun _ hG => y_le (hL.ext hG) na3 rfl (by omega) (by omega) rfl) ?_
    refine tn rfl (fun _ hG => mvI rfl) ?_
    refine t_end ?_
    have hz14 := hx13.size
    replace hbs := hbs.ext hx13
    replace hL := hL.ext hx13
    replace hE := hE.step hx13 (.inl (Nat.le_refl _))
    refine sc cl21 (keep_Pick_ok _ _ _ (by omega) (by omega)) rfl ?_
    rintro v19 w15 ⟨rfl, ho16⟩
    have hz20 := ho16.size
    replace hbs := hbs.ext ho16
    replace hL := hL.ext ho16
    replace hE := hE.step ho16 (.inl (Nat.le_refl _))
    refine st (asI rfl) ?_
    refine rg_end ?_
    refine n_then ?_
    refine wp_ret ?_
    refine ret1 (v := (.int .i64 _)) Try.results13 rfl ?_
    have hp := pick_rng (el l (ps + 1 - 1)) n h1
    exact ⟨_, rfl, hp.1, hp.2, ⟨al, cl, l, ps + 1, hbs, hL, by omega, by omega, p2⟩, hE⟩
end Go.Proofs.Ytciljdhihnnfiaa
