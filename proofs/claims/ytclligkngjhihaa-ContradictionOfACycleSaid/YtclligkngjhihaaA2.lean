/-
  Walks of the functions, printed by a program out of the code and the loops' relations.
-/
import Derived.Test.YtclligkngjhihaaWkD
import Derived.Test.YtclligkngjhihaaProg
import Derived.KernelRfl
import Derived.Test.YtclligkngjhihaaBase
import Derived.Test.YtclligkngjhihaaA1
namespace Go.Proofs.Ytclligkngjhihaa
open Go.Wk Go.RowKit
set_option linter.unusedVariables false
set_option linter.unusedSimpArgs false
theorem agg26 : AggOf Try.prog 26 3 := fun w => ⟨Try.isAgg26 w, Try.sizeOf26 w⟩
theorem agg36 : AggOf Try.prog 36 6 := fun w => ⟨Try.isAgg36 w, Try.sizeOf36 w⟩
theorem cl62 : Callable Try.prog 62 := ⟨Try.call62⟩
theorem fld26_0 : FieldOf Try.prog 26 0 0 := fun b o w => by simp [Instr.fieldAt, fieldPlace, Instr.sureAddr, Addr.add_lit]
theorem fld26_1 : FieldOf Try.prog 26 1 1 := fun b o w => by simp [Instr.fieldAt, fieldPlace, Instr.sureAddr, Addr.add_lit]
theorem fld26_2 : FieldOf Try.prog 26 2 2 := fun b o w => by simp [Instr.fieldAt, fieldPlace, Instr.sureAddr, Addr.add_lit]
theorem fld36_1 : FieldOf Try.prog 36 1 1 := fun b o w => by simp [Instr.fieldAt, fieldPlace, Instr.sureAddr, Addr.add_lit]
theorem fld36_2 : FieldOf Try.prog 36 2 2 := fun b o w => by simp [Instr.fieldAt, fieldPlace, Instr.sureAddr, Addr.add_lit]
theorem fld36_3 : FieldOf Try.prog 36 3 3 := fun b o w => by simp [Instr.fieldAt, fieldPlace, Instr.sureAddr, Addr.add_lit]
theorem fld36_4 : FieldOf Try.prog 36 4 4 := fun b o w => by simp [Instr.fieldAt, fieldPlace, Instr.sureAddr, Addr.add_lit]
theorem fld36_5 : FieldOf Try.prog 36 5 5 := fun b o w => by simp [Instr.fieldAt, fieldPlace, Instr.sureAddr, Addr.add_lit]
theorem na23 : NotAgg Try.prog 23 := Try.isAgg23
theorem na24 : NotAgg Try.prog 24 := Try.isAgg24
theorem na3 : NotAgg Try.prog 3 := Try.isAgg3
theorem sl24 : SliceOf Try.prog 24 36 6 := ⟨Try.underlying24, Try.sizeOf36⟩
theorem sz36 : SzOf Try.prog 36 6 := Try.sizeOf36
theorem zer36 : ZeroOf Try.prog 36 (.agg [.int .i64 0, .int .i64 0, .int .i64 0, .int .i64 0, .int .i64 0, .int .i64 0].toArray) := Try.zeroValue36

set_option maxRecDepth 100000 in
theorem network_isEvent_ok (N : Net) (A : NetA) (lo hi : Nat) (i : Int) (w : World) (hN : NetIn lo hi w N A)  : Cal Try.prog 62 [netV N A, .int .i64 i] w (fun v w' => v = .bool (decide (0 ≤ i ∧ i < N.evs.length)) ∧ Ext w w') := by
 have hE : Out 0 0 w w := Out.refl _ _ w
 refine enter Try.func62 rfl Try.ntmps62 rfl ?_
 refine wp_seq ?_
 refine rg ?_
 refine sd (d_boxA rfl ?_)
 intro bl4 w1 hbbl4 hs3 ho2 hbl4
 have hz5 := ho2.size
 replace hN := hN.ext ho2
 replace hE := hE.step ho2 (.inl (Nat.le_refl _))
 refine st (asB rfl) ?_
 refine rg_end ?_
 refine n_then ?_
 refine wp_seq ?_
 refine rg ?_
 refine st (mvI rfl) ?_
 refine st (y_geq rfl rfl) ?_
 refine st (mvB rfl) ?_
 refine gspL 7 rfl (fun hg6 => ?_) (fun hg6 => ?_)
 ·
  have hg6n := hg6; try simp only [nm] at hg6n
  refine stg rfl rfl hg6 (mvI rfl) ?_
  refine stg rfl rfl hg6 (y_fld fld26_1 rfl) ?_
  refine stg rfl rfl hg6 (y_lb hbl4 na23 rfl rfl) ?_
  refine stg rfl rfl hg6 (y_len Try.underlying23 rfl) ?_
  refine stg rfl rfl hg6 (y_lss rfl rfl) ?_
  refine st (y_pickT rfl hg6 (v := .bool _) rfl) ?_
  refine st (asB rfl) ?_
  refine rg_end ?_
  refine n_then ?_
  refine wp_ret ?_
  refine ret1 (v := (.bool _)) Try.results62 rfl ?_
  exact ⟨vb (by simp only [decide_eq_true_eq, decide_eq_false_iff_not, Bool.not_eq_true', Bool.not_eq_eq_eq_not, Bool.not_true, Bool.false_eq_true, false_iff, true_iff, iff_true, iff_false]; omega), hE⟩
 ·
  have hg6n := hg6; try simp only [nm] at hg6n
  refine sts rfl rfl hg6 ?_
  refine sts rfl rfl hg6 ?_
  refine sts rfl rfl hg6 ?_
  refine sts rfl rfl hg6 ?_
  refine sts rfl rfl hg6 ?_
  refine st (y_pickF rfl hg6 (v := .bool _) rfl) ?_
  refine st (asB rfl) ?_
  refine rg_end ?_
  refine n_then ?_
  refine wp_ret ?_
  refine ret1 (v := (.bool _)) Try.results62 rfl ?_
  exact ⟨vb (by simp only [decide_eq_true_eq, decide_eq_false_iff_not, Bool.not_eq_true', Bool.not_eq_eq_eq_not, Bool.not_true, Bool.false_eq_true, false_iff, true_iff, iff_true, iff_false]; omega), hE⟩

set_option maxRecDepth 100000 in
theorem network_Check_ok (N : Net) (A : NetA) (lo hi : Nat) (w : World) (hN : NetIn lo hi w N A)  : Cal Try.prog 34 [netV N A] w (fun v w' => v = .bool (netOk N) ∧ Ext w w') := by
 replace hN := hN.full
 have hE : Out 0 0 w w := Out.refl _ _ w
 refine enter Try.func34 rfl Try.ntmps34 rfl ?_
 refine wp_seq ?_
 refine rg ?_
 refine sd (d_boxA rfl ?_)
 intro bl4 w1 hbbl4 hs3 ho2 hbl4
 have hz5 := ho2.size
 replace hN := hN.ext ho2
 replace hE := hE.step ho2 (.inl (Nat.le_refl _))
 refine st (asB rfl) ?_
 refine rg_end ?_
 refine n_then ?_
 refine wp_seq ?_
 refine cut (γ := Unit) [5, 6, 7, 8, 9, 10, 11, 12, 13, 14, 15, 16, 17, 18, 19, 20, 21, 22, 23, 24] (fun _ => [(24, .bool (!hdrOk N))]) (fun _ w_ => Ext w1 w_ ∧ True) ?_ ?_
 ·
  have hcut := Out.refl 0 0 w1
  refine rg ?_
  refine st (y_fld fld26_0 rfl) ?_
  refine st (y_lb hbl4 na3 rfl rfl) ?_
  refine st (y_lss rfl rfl) ?_
  refine st (mvB rfl) ?_
  refine gspL 8 rfl (fun hg6 => ?_) (fun hg6 => ?_)
  ·
   have hg6n := hg6; try simp only [nm] at hg6n
   refine sts rfl rfl hg6 ?_
   refine sts rfl rfl hg6 ?_
   refine sts rfl rfl hg6 ?_
   refine st (y_pickT rfl hg6 (v := .bool _) rfl) ?_
   refine st (mvB rfl) ?_
   refine sts rfl rfl rfl ?_
   refine sts rfl rfl rfl ?_
   refine sts rfl rfl rfl ?_
   refine sts rfl rfl rfl ?_
   refine st (y_pickT rfl rfl (v := .bool _) rfl) ?_
   refine st (mvB rfl) ?_
   refine sts rfl rfl rfl ?_
   refine sts rfl rfl rfl ?_
   refine sts rfl rfl rfl ?_
   refine sts rfl rfl rfl ?_
   refine st (y_pickT rfl rfl (v := .bool _) rfl) ?_
   refine rg_end ?_
   exact n_then ⟨(), _, rfl, same_lk rfl (same_rfl), ⟨vb (by simp only [hdrOk, decide_eq_true_eq, decide_eq_false_iff_not, Bool.not_eq_true', Bool.not_eq_eq_eq_not, Bool.not_true, Bool.false_eq_true, false_iff, true_iff, iff_true, iff_false]; omega), trivial⟩, ⟨hcut, trivial⟩⟩
  ·
   have hg6n := hg6; try simp only [nm] at hg6n
   refine stg rfl rfl hg6 (y_fld fld26_0 rfl) ?_
   refine stg rfl rfl hg6 (y_lb hbl4 na3 rfl rfl) ?_
   refine stg rfl rfl hg6 (y_gtr rfl rfl) ?_
   refine st (y_pickF rfl hg6 (v := .bool _) rfl) ?_
   refine st (mvB rfl) ?_
   refine gspL 13 rfl (fun hg7 => ?_) (fun hg7 => ?_)
   ·
    have hg7n := hg7; try simp only [nm] at hg7n
    refine sts rfl rfl hg7 ?_
    refine sts rfl rfl hg7 ?_
    refine sts rfl rfl hg7 ?_
    refine sts rfl rfl hg7 ?_
    refine st (y_pickT rfl hg7 (v := .bool _) rfl) ?_
    refine st (mvB rfl) ?_
    refine sts rfl rfl rfl ?_
    refine sts rfl rfl rfl ?_
    refine sts rfl rfl rfl ?_
    refine sts rfl rfl rfl ?_
    refine st (y_pickT rfl rfl (v := .bool _) rfl) ?_
    refine rg_end ?_
    exact n_then ⟨(), _, rfl, same_lk rfl (same_rfl), ⟨vb (by simp only [hdrOk, decide_eq_true_eq, decide_eq_false_iff_not, Bool.not_eq_true', Bool.not_eq_eq_eq_not, Bool.not_true, Bool.false_eq_true, false_iff, true_iff, iff_true, iff_false]; omega), trivial⟩, ⟨hcut, trivial⟩⟩
   ·
    have hg7n := hg7; try simp only [nm] at hg7n
    refine stg rfl rfl hg7 (y_fld fld26_1 rfl) ?_
    refine stg rfl rfl hg7 (y_lb hbl4 na23 rfl rfl) ?_
    refine stg rfl rfl hg7 (y_len Try.underlying23 rfl) ?_
    refine stg rfl rfl hg7 (y_gtr rfl rfl) ?_
    refine st (y_pickF rfl hg7 (v := .bool _) rfl) ?_
    refine st (mvB rfl) ?_
    refine gspL 19 rfl (fun hg8 => ?_) (fun hg8 => ?_)
    ·
     have hg8n := hg8; try simp only [nm] at hg8n
     refine sts rfl rfl hg8 ?_
     refine sts rfl rfl hg8 ?_
     refine sts rfl rfl hg8 ?_
     refine sts rfl rfl hg8 ?_
     refine st (y_pickT rfl hg8 (v := .bool _) rfl) ?_
     refine rg_end ?_
     exact n_then ⟨(), _, rfl, same_lk rfl (same_rfl), ⟨vb (by simp only [hdrOk, decide_eq_true_eq, decide_eq_false_iff_not, Bool.not_eq_true', Bool.not_eq_eq_eq_not, Bool.not_true, Bool.false_eq_true, false_iff, true_iff, iff_true, iff_false]; omega), trivial⟩, ⟨hcut, trivial⟩⟩
    ·
     have hg8n := hg8; try simp only [nm] at hg8n
     refine stg rfl rfl hg8 (y_fld fld26_2 rfl) ?_
     refine stg rfl rfl hg8 (y_lb hbl4 na24 rfl rfl) ?_
     refine stg rfl rfl hg8 (y_len Try.underlying24 rfl) ?_
     refine stg rfl rfl hg8 (y_gtr rfl rfl) ?_
     refine st (y_pickF rfl hg8 (v := .bool _) rfl) ?_
     refine rg_end ?_
     exact n_then ⟨(), _, rfl, same_lk rfl (same_rfl), ⟨vb (by simp only [hdrOk, decide_eq_true_eq, decide_eq_false_iff_not, Bool.not_eq_true', Bool.not_eq_eq_eq_not, Bool.not_true, Bool.false_eq_true, false_iff, true_iff, iff_true, iff_false]; omega), trivial⟩, ⟨hcut, trivial⟩⟩
 ·
  rintro _ hav_ w9 ⟨ho10, _⟩
  have hz11 := ho10.size
  replace hN := hN.ext ho10
  replace hE := hE.step ho10 (.inl (Nat.le_refl _))
  replace hbl4 := hbl4.ext ho10
  refine cnd rfl (fun hc0 => ?_) (fun hc0 => ?_)
  ·
   try simp only [nm] at hc0
   have hf : netOk N = false := by simp only [netOk, hc0, Bool.false_and]
   refine wp_seq ?_
   refine rg ?_
   refine st (asB rfl) ?_
   refine rg_end ?_
   refine n_then ?_
   refine wp_ret ?_
   refine r_then (ret1 (v := (.bool _)) Try.results34 rfl ?_)
   exact ⟨by rw [hf], hE⟩
  ·
   try simp only [nm] at hc0
   have hlen : (N.acts.length : Int) ≤ 512 := by simp only [hdrOk, decide_eq_true_eq] at hc0; omega
   refine wp_skip ?_
   refine n_then ?_
   refine wp_seq ?_
   refine wp_seq ?_
   refine rg ?_
   refine st (y_fld fld26_2 rfl) ?_
   refine st (y_lb hbl4 na24 rfl rfl) ?_
   refine st (y_len Try.underlying24 rfl) ?_
   refine st (mvI rfl) ?_
   refine rg_end ?_
   refine n_then ?_
   refine wp_block ?_
   refine lp (γ := Nat) [2, 4, 28, 29, 30, 31, 32, 33, 34, 35, 36, 37, 38, 39, 40, 41, 42, 43, 44, 45, 46, 47, 48, 49, 50, 51, 52, 53, 54, 55, 56, 57, 58, 59, 60, 61, 62, 63, 64, 65, 66, 67, 68, 69, 70, 71, 72, 73, 74, 75, 76, 77, 78, 79, 80, 81, 82, 83, 84] (fun k => [(28, .int .i64 (k : Int))]) (fun k w_ => Ext w9 w_ ∧ (k : Int) ≤ N.acts.length ∧ (N.acts.take k).all (acOk N) = true) (fun k => N.acts.length - k) 0 ⟨rfl, trivial⟩ ⟨Out.refl _ _ _, by omega, by simp⟩ ?_
   rintro k hav_ w12 ⟨ho13, hk, hall⟩
   have hlp0 := ho13
   have hz14 := ho13.size
   replace hN := hN.ext ho13
   replace hE := hE.step ho13 (.inl (Nat.le_refl _))
   replace hbl4 := hbl4.ext ho13
   refine wp_seq ?_
   refine rg ?_
   refine st (y_lss rfl rfl) ?_
   refine rg_end ?_
   refine n_then ?_
   refine wp_seq ?_
   refine cnd rfl (fun hc1 => ?_) (fun hc1 => ?_)
   ·
    try simp only [nm] at hc1
    refine wp_skip ?_
    refine n_then ?_
    refine wp_seq ?_
    refine wp_block ?_
    refine wp_seq ?_
    refine rg ?_
    refine st (y_ix hN.a sl24 rfl (rfl) rfl (by omega) (by omega)) ?_
    refine st (y_lw hN.a agg36 rfl (by omega) (by omega)) ?_
    refine sd (d_allocA zer36 ?_)
    intro bl18 w15 hbbl18 hs17 ho16 hbl18
    have hz19 := ho16.size
    replace hN := hN.ext ho16
    replace hE := hE.step ho16 (.inl (Nat.le_refl _))
    replace hbl4 := hbl4.ext ho16
    replace hlp0 := hlp0.step ho16 (.inl (Nat.le_refl _))
    refine sd0 (d_stN hbl18 rfl rfl sz36 rfl rfl ?_)
    intro w20 hs22 ho21 hbl18'
    clear hbl18; have hbl18 := hbl18'; clear hbl18'
    have hz23 := ho21.size
    replace hN := hN.out ho21 (by first | omega | (simp only [blk_some, hi1_some] at *; omega))
    replace hE := hE.step ho21 (by first | omega | (simp only [blk_some, hi1_some] at *; omega))
    replace hbl4 := hbl4.out ho21 (by first | omega | (simp only [blk_some, hi1_some] at *; omega))
    replace hlp0 := hlp0.step ho21 (by first | omega | (simp only [blk_some, hi1_some] at *; omega))
    refine rg_end ?_
    refine n_then ?_
    refine wp_seq ?_
    refine cut (γ := Unit) [32, 33, 34, 35, 36, 37, 38, 39, 40, 41, 42, 43, 44, 45, 46, 47, 48, 49, 50] (fun _ => [(50, .bool (!acOk1 N (el N.acts k)))]) (fun _ w_ => Ext w20 w_ ∧ True) ?_ ?_
    ·
     have hcut := Out.refl 0 0 w20
     refine rg ?_
     refine st (y_lbN hbl4 agg26 rfl) ?_
     refine st (y_fld fld36_1 rfl) ?_
     refine st (y_lb hbl18 na3 rfl rfl) ?_
     refine sc cl62 (network_isEvent_ok N A _ _ _ _ hN) rfl ?_
     rintro v28 w24 ⟨rfl, ho25⟩
     have hz29 := ho25.size
     replace hN := hN.ext ho25
     replace hE := hE.step ho25 (.inl (Nat.le_refl _))
     replace hbl4 := hbl4.ext ho25
     replace hlp0 := hlp0.step ho25 (.inl (Nat.le_refl _))
     replace hbl18 := hbl18.ext ho25
     replace hcut := hcut.step ho25 (.inl (Nat.le_refl _))
     refine st (y_not rfl) ?_
     refine st (mvB rfl) ?_
     refine gspL 37 rfl (fun hg30 => ?_) (fun hg30 => ?_)
     ·
      have hg30n := hg30; try simp only [nm] at hg30n
      refine sts rfl rfl hg30 ?_
      refine sts rfl rfl hg30 ?_
      refine sts rfl rfl hg30 ?_
      refine sts rfl rfl hg30 ?_
      refine sts rfl rfl hg30 ?_
      refine st (y_pickT rfl hg30 (v := .bool _) rfl) ?_
      refine st (mvB rfl) ?_
      refine sts rfl rfl rfl ?_
      refine sts rfl rfl rfl ?_
      refine sts rfl rfl rfl ?_
      refine sts rfl rfl rfl ?_
      refine sts rfl rfl rfl ?_
      refine st (y_pickT rfl rfl (v := .bool _) rfl) ?_
      refine rg_end ?_
      exact n_then ⟨(), _, rfl, same_lk rfl (same_rfl), ⟨vb (by simp only [acOk1, decide_eq_true_eq, decide_eq_false_iff_not, Bool.not_eq_true', Bool.not_eq_eq_eq_not, Bool.not_true, Bool.false_eq_true, false_iff, true_iff, iff_true, iff_false]; omega), trivial⟩, ⟨hcut, trivial⟩⟩
     ·
      have hg30n := hg30; try simp only [nm] at hg30n
      refine stg rfl rfl hg30 (y_lbN hbl4 agg26 rfl) ?_
      refine stg rfl rfl hg30 (y_fld fld36_2 rfl) ?_
      refine stg rfl rfl hg30 (y_lb hbl18 na3 rfl rfl) ?_
      refine scg rfl rfl hg30 cl62 (network_isEvent_ok N A _ _ _ _ hN) rfl ?_
      rintro v35 w31 ⟨rfl, ho32⟩
      have hz36 := ho32.size
      replace hN := hN.ext ho32
      replace hE := hE.step ho32 (.inl (Nat.le_refl _))
      replace hbl4 := hbl4.ext ho32
      replace hlp0 := hlp0.step ho32 (.inl (Nat.le_refl _))
      replace hbl18 := hbl18.ext ho32
      replace hcut := hcut.step ho32 (.inl (Nat.le_refl _))
      refine stg rfl rfl hg30 (y_not rfl) ?_
      refine st (y_pickF rfl hg30 (v := .bool _) rfl) ?_
      refine st (mvB rfl) ?_
      refine gspL 44 rfl (fun hg37 => ?_) (fun hg37 => ?_)
      ·
       have hg37n := hg37; try simp only [nm] at hg37n
       refine sts rfl rfl hg37 ?_
       refine sts rfl rfl hg37 ?_
       refine sts rfl rfl hg37 ?_
       refine sts rfl rfl hg37 ?_
       refine sts rfl rfl hg37 ?_
       refine st (y_pickT rfl hg37 (v := .bool _) rfl) ?_
       refine rg_end ?_
       exact n_then ⟨(), _, rfl, same_lk rfl (same_rfl), ⟨vb (by simp only [acOk1, decide_eq_true_eq, decide_eq_false_iff_not, Bool.not_eq_true', Bool.not_eq_eq_eq_not, Bool.not_true, Bool.false_eq_true, false_iff, true_iff, iff_true, iff_false]; omega), trivial⟩, ⟨hcut, trivial⟩⟩
      ·
       have hg37n := hg37; try simp only [nm] at hg37n
       refine stg rfl rfl hg37 (y_fld fld36_1 rfl) ?_
       refine stg rfl rfl hg37 (y_lb hbl18 na3 rfl rfl) ?_
       refine stg rfl rfl hg37 (y_fld fld36_2 rfl) ?_
       refine stg rfl rfl hg37 (y_lb hbl18 na3 rfl rfl) ?_
       refine stg rfl rfl hg37 (y_eql rfl rfl) ?_
       refine st (y_pickF rfl hg37 (v := .bool _) rfl) ?_
       refine rg_end ?_
       exact n_then ⟨(), _, rfl, same_lk rfl (same_rfl), ⟨vb (by simp only [acOk1, decide_eq_true_eq, decide_eq_false_iff_not, Bool.not_eq_true', Bool.not_eq_eq_eq_not, Bool.not_true, Bool.false_eq_true, false_iff, true_iff, iff_true, iff_false]; omega), trivial⟩, ⟨hcut, trivial⟩⟩
    ·
     rintro _ hav_ w38 ⟨ho39, _⟩
     have hz40 := ho39.size
     replace hN := hN.ext ho39
     replace hE := hE.step ho39 (.inl (Nat.le_refl _))
     replace hbl4 := hbl4.ext ho39
     replace hlp0 := hlp0.step ho39 (.inl (Nat.le_refl _))
     replace hbl18 := hbl18.ext ho39
     refine cnd rfl (fun hc2 => ?_) (fun hc2 => ?_)
     ·
      try simp only [nm] at hc2
      have hf : netOk N = false := by simp only [netOk, all_false hc1 (show acOk N (el N.acts k) = false by simp only [acOk, hc2, Bool.false_and]), Bool.and_false]
      refine wp_seq ?_
      refine rg ?_
      refine st (asB rfl) ?_
      refine rg_end ?_
      refine n_then ?_
      refine wp_ret ?_
      refine r_then (r_blk (r_then (r_then (r_blk (r_then (ret1 (v := (.bool _)) Try.results34 rfl ?_))))))
      exact ⟨by rw [hf], hE⟩
     ·
      try simp only [nm] at hc2
      refine wp_skip ?_
      refine n_then ?_
      refine wp_seq ?_
      refine cut (γ := Unit) [51, 52, 53, 54, 55, 56, 57, 58, 59, 60, 61, 62, 63, 64, 65, 66, 67, 68, 69, 70, 71, 72, 73, 74, 75] (fun _ => [(75, .bool (!acOk2 N (el N.acts k)))]) (fun _ w_ => Ext w38 w_ ∧ True) ?_ ?_
      ·
       have hcut := Out.refl 0 0 w38
       refine rg ?_
       refine st (y_fld fld36_3 rfl) ?_
       refine st (y_lb hbl18 na3 rfl rfl) ?_
       refine st (y_lss rfl rfl) ?_
       refine st (mvB rfl) ?_
       refine gspL 54 rfl (fun hg41 => ?_) (fun hg41 => ?_)
       ·
        have hg41n := hg41; try simp only [nm] at hg41n
        refine sts rfl rfl hg41 ?_
        refine sts rfl rfl hg41 ?_
        refine sts rfl rfl hg41 ?_
        refine sts rfl rfl hg41 ?_
        refine sts rfl rfl hg41 ?_
        refine st (y_pickT rfl hg41 (v := .bool _) rfl) ?_
        refine st (mvB rfl) ?_
        refine sts rfl rfl rfl ?_
        refine sts rfl rfl rfl ?_
        refine sts rfl rfl rfl ?_
        refine st (y_pickT rfl rfl (v := .bool _) rfl) ?_
        refine st (mvB rfl) ?_
        refine sts rfl rfl rfl ?_
        refine sts rfl rfl rfl ?_
        refine sts rfl rfl rfl ?_
        refine sts rfl rfl rfl ?_
        refine sts rfl rfl rfl ?_
        refine sts rfl rfl rfl ?_
        refine sts rfl rfl rfl ?_
        refine sts rfl rfl rfl ?_
        refine st (y_pickT rfl rfl (v := .bool _) rfl) ?_
        refine rg_end ?_
        exact n_then ⟨(), _, rfl, same_lk rfl (same_rfl), ⟨vb (by simp only [acOk2, decide_eq_true_eq, decide_eq_false_iff_not, Bool.not_eq_true', Bool.not_eq_eq_eq_not, Bool.not_true, Bool.false_eq_true, false_iff, true_iff, iff_true, iff_false]; omega), trivial⟩, ⟨hcut, trivial⟩⟩
       ·
        have hg41n := hg41; try simp only [nm] at hg41n
        refine stg rfl rfl hg41 (y_fld fld36_3 rfl) ?_
        refine stg rfl rfl hg41 (y_lb hbl18 na3 rfl rfl) ?_
        refine stg rfl rfl hg41 (y_fld fld36_4 rfl) ?_
        refine stg rfl rfl hg41 (y_lb hbl18 na3 rfl rfl) ?_
        refine stg rfl rfl hg41 (y_gtr rfl rfl) ?_
        refine st (y_pickF rfl hg41 (v := .bool _) rfl) ?_
        refine st (mvB rfl) ?_
        refine gspL 61 rfl (fun hg42 => ?_) (fun hg42 => ?_)
        ·
         have hg42n := hg42; try simp only [nm] at hg42n
         refine sts rfl rfl hg42 ?_
         refine sts rfl rfl hg42 ?_
         refine sts rfl rfl hg42 ?_
         refine st (y_pickT rfl hg42 (v := .bool _) rfl) ?_
         refine st (mvB rfl) ?_
         refine sts rfl rfl rfl ?_
         refine sts rfl rfl rfl ?_
         refine sts rfl rfl rfl ?_
         refine sts rfl rfl rfl ?_
         refine sts rfl rfl rfl ?_
         refine sts rfl rfl rfl ?_
         refine sts rfl rfl rfl ?_
         refine sts rfl rfl rfl ?_
         refine st (y_pickT rfl rfl (v := .bool _) rfl) ?_
         refine rg_end ?_
         exact n_then ⟨(), _, rfl, same_lk rfl (same_rfl), ⟨vb (by simp only [acOk2, decide_eq_true_eq, decide_eq_false_iff_not, Bool.not_eq_true', Bool.not_eq_eq_eq_not, Bool.not_true, Bool.false_eq_true, false_iff, true_iff, iff_true, iff_false]; omega), trivial⟩, ⟨hcut, trivial⟩⟩
        ·
         have hg42n := hg42; try simp only [nm] at hg42n
         refine stg rfl rfl hg42 (y_fld fld36_4 rfl) ?_
         refine stg rfl rfl hg42 (y_lb hbl18 na3 rfl rfl) ?_
         refine stg rfl rfl hg42 (y_gtr rfl rfl) ?_
         refine st (y_pickF rfl hg42 (v := .bool _) rfl) ?_
         refine st (mvB rfl) ?_
         refine gspL 66 rfl (fun hg43 => ?_) (fun hg43 => ?_)
         ·
          have hg43n := hg43; try simp only [nm] at hg43n
          refine sts rfl rfl hg43 ?_
          refine sts rfl rfl hg43 ?_
          refine sts rfl rfl hg43 ?_
          refine sts rfl rfl hg43 ?_
          refine sts rfl rfl hg43 ?_
          refine sts rfl rfl hg43 ?_
          refine sts rfl rfl hg43 ?_
          refine sts rfl rfl hg43 ?_
          refine st (y_pickT rfl hg43 (v := .bool _) rfl) ?_
          refine rg_end ?_
          exact n_then ⟨(), _, rfl, same_lk rfl (same_rfl), ⟨vb (by simp only [acOk2, decide_eq_true_eq, decide_eq_false_iff_not, Bool.not_eq_true', Bool.not_eq_eq_eq_not, Bool.not_true, Bool.false_eq_true, false_iff, true_iff, iff_true, iff_false]; omega), trivial⟩, ⟨hcut, trivial⟩⟩
         ·
          have hg43n := hg43; try simp only [nm] at hg43n
          refine stg rfl rfl hg43 (y_fld fld36_4 rfl) ?_
          refine stg rfl rfl hg43 (y_lb hbl18 na3 rfl rfl) ?_
          refine stg rfl rfl hg43 (y_fld fld36_3 rfl) ?_
          refine stg rfl rfl hg43 (y_lb hbl18 na3 rfl rfl) ?_
          refine stg rfl rfl hg43 (y_sub rfl rfl (by omega)) ?_
          refine stg rfl rfl hg43 (y_fld fld26_0 rfl) ?_
          refine stg rfl rfl hg43 (y_lb hbl4 na3 rfl rfl) ?_
          refine stg rfl rfl hg43 (y_geq rfl rfl) ?_
          refine st (y_pickF rfl hg43 (v := .bool _) rfl) ?_
          refine rg_end ?_
          exact n_then ⟨(), _, rfl, same_lk rfl (same_rfl), ⟨vb (by simp only [acOk2, decide_eq_true_eq, decide_eq_false_iff_not, Bool.not_eq_true', Bool.not_eq_eq_eq_not, Bool.not_true, Bool.false_eq_true, false_iff, true_iff, iff_true, iff_false]; omega), trivial⟩, ⟨hcut, trivial⟩⟩
      ·
       rintro _ hav_ w44 ⟨ho45, _⟩
       have hz46 := ho45.size
       replace hN := hN.ext ho45
       replace hE := hE.step ho45 (.inl (Nat.le_refl _))
       replace hbl4 := hbl4.ext ho45
       replace hlp0 := hlp0.step ho45 (.inl (Nat.le_refl _))
       replace hbl18 := hbl18.ext ho45
       refine cnd rfl (fun hc3 => ?_) (fun hc3 => ?_)
       ·
        try simp only [nm] at hc3
        have hf : netOk N = false := by simp only [netOk, all_false hc1 (show acOk N (el N.acts k) = false by simp only [acOk, hc3, Bool.false_and, Bool.and_false]), Bool.and_false]
        refine wp_seq ?_
        refine rg ?_
        refine st (asB rfl) ?_
        refine rg_end ?_
        refine n_then ?_
        refine wp_ret ?_
        refine r_then (r_blk (r_then (r_then (r_blk (r_then (ret1 (v := (.bool _)) Try.results34 rfl ?_))))))
        exact ⟨by rw [hf], hE⟩
       ·
        try simp only [nm] at hc3
        refine wp_skip ?_
        refine n_then ?_
        refine cut (γ := Unit) [76, 77, 78, 79, 80, 81, 82, 83] (fun _ => [(83, .bool (!acOk3 (el N.acts k)))]) (fun _ w_ => Ext w44 w_ ∧ True) ?_ ?_
        ·
         have hcut := Out.refl 0 0 w44
         refine rg ?_
         refine st (y_fld fld36_5 rfl) ?_
         refine st (y_lb hbl18 na3 rfl rfl) ?_
         refine st (y_lss rfl rfl) ?_
         refine st (mvB rfl) ?_
         refine gspL 79 rfl (fun hg47 => ?_) (fun hg47 => ?_)
         ·
          have hg47n := hg47; try simp only [nm] at hg47n
          refine sts rfl rfl hg47 ?_
          refine sts rfl rfl hg47 ?_
          refine sts rfl rfl hg47 ?_
          refine st (y_pickT rfl hg47 (v := .bool _) rfl) ?_
          refine rg_end ?_
          exact n_then ⟨(), _, rfl, same_lk rfl (same_rfl), ⟨vb (by simp only [acOk3, decide_eq_true_eq, decide_eq_false_iff_not, Bool.not_eq_true', Bool.not_eq_eq_eq_not, Bool.not_true, Bool.false_eq_true, false_iff, true_iff, iff_true, iff_false]; omega), trivial⟩, ⟨hcut, trivial⟩⟩
         ·
          have hg47n := hg47; try simp only [nm] at hg47n
          refine stg rfl rfl hg47 (y_fld fld36_5 rfl) ?_
          refine stg rfl rfl hg47 (y_lb hbl18 na3 rfl rfl) ?_
          refine stg rfl rfl hg47 (y_gtr rfl rfl) ?_
          refine st (y_pickF rfl hg47 (v := .bool _) rfl) ?_
          refine rg_end ?_
          exact n_then ⟨(), _, rfl, same_lk rfl (same_rfl), ⟨vb (by simp only [acOk3, decide_eq_true_eq, decide_eq_false_iff_not, Bool.not_eq_true', Bool.not_eq_eq_eq_not, Bool.not_true, Bool.false_eq_true, false_iff, true_iff, iff_true, iff_false]; omega), trivial⟩, ⟨hcut, trivial⟩⟩
        ·
         rintro _ hav_ w48 ⟨ho49, _⟩
         have hz50 := ho49.size
         replace hN := hN.ext ho49
         replace hE := hE.step ho49 (.inl (Nat.le_refl _))
         replace hbl4 := hbl4.ext ho49
         replace hlp0 := hlp0.step ho49 (.inl (Nat.le_refl _))
         replace hbl18 := hbl18.ext ho49
         refine cnd rfl (fun hc4 => ?_) (fun hc4 => ?_)
         ·
          try simp only [nm] at hc4
          have hf : netOk N = false := by simp only [netOk, all_false hc1 (show acOk N (el N.acts k) = false by simp only [acOk, hc4, Bool.and_false]), Bool.and_false]
          refine wp_seq ?_
          refine rg ?_
          refine st (asB rfl) ?_
          refine rg_end ?_
          refine n_then ?_
          refine wp_ret ?_
          refine r_blk (r_then (r_then (r_blk (r_then (ret1 (v := (.bool _)) Try.results34 rfl ?_)))))
          exact ⟨by rw [hf], hE⟩
         ·
          try simp only [nm] at hc4
          refine wp_skip ?_
          refine n_blk ?_
          refine n_then ?_
          refine rg ?_
          refine st (y_add rfl rfl (by omega)) ?_
          refine st (mvI rfl) ?_
          refine rg_end ?_
          exact n_then ⟨k + 1, _, rfl, same_lk rfl (same_hav rfl (same_lk rfl (same_hav rfl (same_lk rfl (same_hav rfl (same_lk rfl (same_h0))))))), ⟨rfl, trivial⟩, ⟨hlp0, by omega, take_all_succ hc1 hall (by simp only [acOk, hc2, hc3, hc4, Bool.and_self])⟩, by first | omega | (dsimp only; omega)⟩
   ·
    try simp only [nm] at hc1
    have hf : netOk N = true := by simp only [netOk, hc0, all_take_len hc1 hall, Bool.and_self]
    refine wp_exit ?_
    refine e_then (e_then (e_blk (?_)))
    refine n_then ?_
    refine wp_seq ?_
    refine rg ?_
    refine st (asB rfl) ?_
    refine rg_end ?_
    refine n_then ?_
    refine wp_ret ?_
    refine ret1 (v := (.bool _)) Try.results34 rfl ?_
    exact ⟨by rw [hf], hE⟩
end Go.Proofs.Ytclligkngjhihaa
