/-
  Walks of the functions, printed by a program out of the code and the loops' relations.
-/
import Derived.Test.YtciljdhihnnfiaaWkG
import Derived.Test.YtciljdhihnnfiaaProg
import Derived.KernelRfl
import Derived.Test.YtciljdhihnnfiaaC7
namespace Go.Proofs.Ytciljdhihnnfiaa
open Go.Wk Go.RowKit
set_option linter.unusedVariables false
set_option linter.unusedSimpArgs false
theorem cl45 : Callable Try.prog 45 := ⟨Try.call45⟩
theorem zerR78 : ZeroOf Try.prog 78 (.agg (List.replicate 144 (Value.bool false)).toArray) := fun w => by kernel_rfl
theorem zerC78 : ((List.replicate 144 (Value.bool false)).toArray).toList = (List.replicate 144 (false)).flatMap encB := by kernel_rfl
theorem zerR79 : ZeroOf Try.prog 79 (.agg (List.replicate 144 (Value.int .i64 0)).toArray) := fun w => by kernel_rfl
theorem zerC79 : ((List.replicate 144 (Value.int .i64 0)).toArray).toList = (List.replicate 144 ((0 : Int))).flatMap encI := by kernel_rfl

theorem dec_ho {a b : Int} (e : a = b) (h : -1 ≤ b) : decide (a < 0) = decide (b = -1) := by
  subst e
  rw [decide_eq_decide]
  omega

set_option maxHeartbeats 2000000 in
set_option maxRecDepth 100000 in
theorem rlk_Grant_ok (S : IS) (lo hi b : Nat) (t : Int) (l : List Lk) (al : Option Addr) (cl la ha : Nat) (w : World) (hX : Rlk lo hi b w S) (hS : IsOk S) (hL : Sl encLk 2 la ha w al l) (hn : (l.length : Int) ≤ 9223372036854775807) (hld : ha ≤ lo ∨ hi ≤ la) (hla : ha ≤ w.heap.size) : Cal Try.prog 29 [.pointer (some ⟨b, 0, none⟩), .int .i64 t, .slice al l.length cl] w (fun v w' => v = .int .i64 (grantE S t l) ∧ Rlk lo hi b w' (grantS S t l) ∧ Out lo hi w w') := by
  obtain ⟨ah, ch, ap, cp, ar, cr, ac, cc, au, cu, l2, h2, hb, hh, hp, hr, hc_, hf, hl2, hh2, hlb, hbh, hhi, hsp⟩ := hX.ex
  have hbl := hb.lt
  have hpos : 0 < w.heap.size := by omega
  have hx1 := hh.blt hpos
  have hx2 := hp.blt hpos
  have hx3 := hr.blt hpos
  have hx4 := hc_.blt hpos
  have hn1 := hS.n1
  have hn2 := hS.n2
  have hlh : (S.rs.map Rs.ho).length = S.rs.length := by simp
  have hlp : (S.rs.map Rs.po).length = S.rs.length := by simp
  have hlr : (S.rs.map Rs.re).length = S.rs.length := by simp
  have hlc : (S.rs.map Rs.cl).length = S.rs.length := by simp
  have hE : Out lo hi w w := Out.refl _ _ w
  refine enter Try.func29 rfl Try.ntmps29 rfl ?_
  refine wp_seq ?_
  refine rg ?_
  refine st (asI rfl) ?_
  refine rg_end ?_
  refine n_then ?_
  refine wp_seq ?_
  refine cut (γ := Unit) [22, 23, 24, 25, 26, 27] (fun _ => [(27, .bool (decide (¬ (0 ≤ t ∧ t < 10))))]) (fun _ w_ => Ext w w_ ∧ True) ?_ ?_
  ·
    have hcut := Out.refl 0 0 w
    refine rg ?_
    refine st (mvI rfl) ?_
    refine st (y_lss rfl rfl) ?_
    refine st (mvB rfl) ?_
    refine gspL 24 rfl (fun hg1 => ?_) (fun hg1 => ?_)
    ·
      have hg1n := hg1; try simp only [decide_eq_true_eq, decide_eq_false_iff_not, Bool.not_eq_true', Bool.not_eq_false', Bool.and_eq_true, Bool.or_eq_true, Bool.or_eq_false_iff, Bool.cond_true_right, Bool.cond_false_right, Bool.cond_true_left, Bool.cond_false_left, ne_eq, Decidable.not_not, bne_iff_ne, beq_iff_eq, beq_eq_false_iff_ne, Bool.not_true, Bool.not_false] at hg1n
      refine sts rfl rfl hg1 ?_
      refine sts rfl rfl hg1 ?_
      refine st (y_pickT rfl hg1 (v := .bool _) rfl) ?_
      refine rg_end ?_
      exact n_then ⟨(), _, rfl, same_lk rfl (same_rfl), ⟨vb (by simp only [decide_eq_true_eq, decide_eq_false_iff_not, Bool.not_eq_true', Bool.not_eq_eq_eq_not, Bool.not_true, Bool.false_eq_true, false_iff, true_iff, iff_true, iff_false]; omega), trivial⟩, ⟨hcut, trivial⟩⟩
    ·
      have hg1n := hg1; try simp only [decide_eq_true_eq, decide_eq_false_iff_not, Bool.not_eq_true', Bool.not_eq_false', Bool.and_eq_true, Bool.or_eq_true, Bool.or_eq_false_iff, Bool.cond_true_right, Bool.cond_false_right, Bool.cond_true_left, Bool.cond_false_left, ne_eq, Decidable.not_not, bne_iff_ne, beq_iff_eq, beq_eq_false_iff_ne, Bool.not_true, Bool.not_false] at hg1n
      refine stg rfl rfl hg1 (mvI rfl) ?_
      refine stg rfl rfl hg1 (y_geq rfl rfl) ?_
      refine st (y_pickF rfl hg1 (v := .bool _) rfl) ?_
      refine rg_end ?_
      exact n_then ⟨(), _, rfl, same_lk rfl (same_rfl), ⟨vb (by simp only [decide_eq_true_eq, decide_eq_false_iff_not, Bool.not_eq_true', Bool.not_eq_eq_eq_not, Bool.not_true, Bool.false_eq_true, false_iff, true_iff, iff_true, iff_false]; omega), trivial⟩, ⟨hcut, trivial⟩⟩
  ·
    rintro _ hav_ w2 ⟨ho3, _⟩
    have hz4 := ho3.size
    replace hX := hX.ext ho3
    replace hb := hb.ext ho3
    replace hh := hh.ext ho3
    replace hp := hp.ext ho3
    replace hr := hr.ext ho3
    replace hc_ := hc_.ext ho3
    replace hf := hf.ext ho3
    replace hL := hL.ext ho3
    replace hE := hE.step ho3 (.inl (Nat.le_refl _))
    refine cnd rfl (fun hc0 => ?_) (fun hc0 => ?_)
    ·
      try simp only [decide_eq_true_eq, decide_eq_false_iff_not, Bool.not_eq_true', Bool.not_eq_false', Bool.and_eq_true, Bool.or_eq_true, Bool.or_eq_false_iff, Bool.cond_true_right, Bool.cond_false_right, Bool.cond_true_left, Bool.cond_false_left, ne_eq, Decidable.not_not, bne_iff_ne, beq_iff_eq, beq_eq_false_iff_ne, Bool.not_true, Bool.not_false] at hc0
      have he := grE1 (S := S) (l := l) hc0
      refine wp_seq ?_
      refine rg ?_
      refine st (asI rfl) ?_
      refine rg_end ?_
      refine n_then ?_
      refine wp_ret ?_
      refine r_then (ret1 (v := (.int .i64 _)) Try.results29 rfl ?_)
      exact ⟨vi he.symm, by rw [grS_err (by rw [he]; decide)]; exact hX, hE⟩
    ·
      try simp only [decide_eq_true_eq, decide_eq_false_iff_not, Bool.not_eq_true', Bool.not_eq_false', Bool.and_eq_true, Bool.or_eq_true, Bool.or_eq_false_iff, Bool.cond_true_right, Bool.cond_false_right, Bool.cond_true_left, Bool.cond_false_left, ne_eq, Decidable.not_not, bne_iff_ne, beq_iff_eq, beq_eq_false_iff_ne, Bool.not_true, Bool.not_false] at hc0
      have ht := hc0
      refine wp_skip ?_
      refine n_then ?_
      refine wp_seq ?_
      refine wp_seq ?_
      refine rg ?_
      refine st (mvS rfl) ?_
      refine st (y_len Try.underlying46 rfl) ?_
      refine st (mvI rfl) ?_
      refine rg_end ?_
      refine n_then ?_
      refine wp_block ?_
      refine lp (γ := Nat) [6, 8, 30, 31, 32, 33, 34, 35, 36, 37, 38, 39, 40, 41, 42, 43, 44, 45, 46, 47, 48, 49] (fun k => [(30, .int .i64 (k : Int))]) (fun k w_ => Ext w2 w_ ∧ (k : Int) ≤ l.length ∧ (l.take k).all (fun q => !lkBad S.rs.length q) = true) (fun k => l.length - k) 0 ⟨rfl, trivial⟩ ⟨Out.refl _ _ _, by omega, by simp⟩ ?_
      rintro k hav_ w5 ⟨ho6, hk, hall⟩
      have hlp0 := ho6
      have hz7 := ho6.size
      replace hX := hX.ext ho6
      replace hb := hb.ext ho6
      replace hh := hh.ext ho6
      replace hp := hp.ext ho6
      replace hr := hr.ext ho6
      replace hc_ := hc_.ext ho6
      replace hf := hf.ext ho6
      replace hL := hL.ext ho6
      replace hE := hE.step ho6 (.inl (Nat.le_refl _))
      refine wp_seq ?_
      refine rg ?_
      refine st (y_lss rfl rfl) ?_
      refine rg_end ?_
      refine n_then ?_
      refine wp_seq ?_
      refine cnd rfl (fun hc1 => ?_) (fun hc1 => ?_)
      ·
        try simp only [decide_eq_true_eq, decide_eq_false_iff_not, Bool.not_eq_true', Bool.not_eq_false', Bool.and_eq_true, Bool.or_eq_true, Bool.or_eq_false_iff, Bool.cond_true_right, Bool.cond_false_right, Bool.cond_true_left, Bool.cond_false_left, ne_eq, Decidable.not_not, bne_iff_ne, beq_iff_eq, beq_eq_false_iff_ne, Bool.not_true, Bool.not_false] at hc1
        refine wp_skip ?_
        refine n_then ?_
        refine wp_seq ?_
        refine wp_block ?_
        refine wp_seq ?_
        refine rg ?_
        refine st (y_ix hL sl46 rfl (rfl) rfl (by omega) (by omega)) ?_
        refine st (y_lw hL agg45 rfl (by omega) (by omega)) ?_
        refine sd (d_allocA zer45 ?_)
        intro b8 w8 hbb8 hs10 ho9 hb8
        have hz11 := ho9.size
        replace hX := hX.ext ho9
        replace hb := hb.ext ho9
        replace hh := hh.ext ho9
        replace hp := hp.ext ho9
        replace hr := hr.ext ho9
        replace hc_ := hc_.ext ho9
        replace hf := hf.ext ho9
        replace hL := hL.ext ho9
        replace hE := hE.step ho9 (.inl (Nat.le_refl _))
        replace hlp0 := hlp0.step ho9 (.inl (Nat.le_refl _))
        refine sd0 (d_stN hb8 rfl rfl sz45 rfl rfl ?_)
        intro w12 hs14 ho13 hb8'
        clear hb8; have hb8 := hb8'; clear hb8'
        have hz15 := ho13.size
        replace hX := hX.out ho13 (by first | exact hsp.bh | exact hsp.bp | exact hsp.br | exact hsp.bc | exact sepO hsp.hp | exact sepO hsp.hr | exact sepO hsp.hc | exact sepO hsp.pr | exact sepO hsp.pc | exact sepO hsp.rc | exact sepO hsp.hp.symm | exact sepO hsp.hr.symm | exact sepO hsp.hc.symm | exact sepO hsp.pr.symm | exact sepO hsp.pc.symm | exact sepO hsp.rc.symm | exact hsp.sh | exact hsp.sp | exact hsp.sr | exact hsp.sc | omega | (simp only [blk_some, hi1_some] at *; omega))
        replace hb := hb.out ho13 (by first | exact hsp.bh | exact hsp.bp | exact hsp.br | exact hsp.bc | exact sepO hsp.hp | exact sepO hsp.hr | exact sepO hsp.hc | exact sepO hsp.pr | exact sepO hsp.pc | exact sepO hsp.rc | exact sepO hsp.hp.symm | exact sepO hsp.hr.symm | exact sepO hsp.hc.symm | exact sepO hsp.pr.symm | exact sepO hsp.pc.symm | exact sepO hsp.rc.symm | exact hsp.sh | exact hsp.sp | exact hsp.sr | exact hsp.sc | omega | (simp only [blk_some, hi1_some] at *; omega))
        replace hh := hh.out ho13 (by first | exact hsp.bh | exact hsp.bp | exact hsp.br | exact hsp.bc | exact sepO hsp.hp | exact sepO hsp.hr | exact sepO hsp.hc | exact sepO hsp.pr | exact sepO hsp.pc | exact sepO hsp.rc | exact sepO hsp.hp.symm | exact sepO hsp.hr.symm | exact sepO hsp.hc.symm | exact sepO hsp.pr.symm | exact sepO hsp.pc.symm | exact sepO hsp.rc.symm | exact hsp.sh | exact hsp.sp | exact hsp.sr | exact hsp.sc | omega | (simp only [blk_some, hi1_some] at *; omega))
        replace hp := hp.out ho13 (by first | exact hsp.bh | exact hsp.bp | exact hsp.br | exact hsp.bc | exact sepO hsp.hp | exact sepO hsp.hr | exact sepO hsp.hc | exact sepO hsp.pr | exact sepO hsp.pc | exact sepO hsp.rc | exact sepO hsp.hp.symm | exact sepO hsp.hr.symm | exact sepO hsp.hc.symm | exact sepO hsp.pr.symm | exact sepO hsp.pc.symm | exact sepO hsp.rc.symm | exact hsp.sh | exact hsp.sp | exact hsp.sr | exact hsp.sc | omega | (simp only [blk_some, hi1_some] at *; omega))
        replace hr := hr.out ho13 (by first | exact hsp.bh | exact hsp.bp | exact hsp.br | exact hsp.bc | exact sepO hsp.hp | exact sepO hsp.hr | exact sepO hsp.hc | exact sepO hsp.pr | exact sepO hsp.pc | exact sepO hsp.rc | exact sepO hsp.hp.symm | exact sepO hsp.hr.symm | exact sepO hsp.hc.symm | exact sepO hsp.pr.symm | exact sepO hsp.pc.symm | exact sepO hsp.rc.symm | exact hsp.sh | exact hsp.sp | exact hsp.sr | exact hsp.sc | omega | (simp only [blk_some, hi1_some] at *; omega))
        replace hc_ := hc_.out ho13 (by first | exact hsp.bh | exact hsp.bp | exact hsp.br | exact hsp.bc | exact sepO hsp.hp | exact sepO hsp.hr | exact sepO hsp.hc | exact sepO hsp.pr | exact sepO hsp.pc | exact sepO hsp.rc | exact sepO hsp.hp.symm | exact sepO hsp.hr.symm | exact sepO hsp.hc.symm | exact sepO hsp.pr.symm | exact sepO hsp.pc.symm | exact sepO hsp.rc.symm | exact hsp.sh | exact hsp.sp | exact hsp.sr | exact hsp.sc | omega | (simp only [blk_some, hi1_some] at *; omega))
        replace hf := hf.out ho13 (by first | exact hsp.bh | exact hsp.bp | exact hsp.br | exact hsp.bc | exact sepO hsp.hp | exact sepO hsp.hr | exact sepO hsp.hc | exact sepO hsp.pr | exact sepO hsp.pc | exact sepO hsp.rc | exact sepO hsp.hp.symm | exact sepO hsp.hr.symm | exact sepO hsp.hc.symm | exact sepO hsp.pr.symm | exact sepO hsp.pc.symm | exact sepO hsp.rc.symm | exact hsp.sh | exact hsp.sp | exact hsp.sr | exact hsp.sc | omega | (simp only [blk_some, hi1_some] at *; omega))
        replace hL := hL.out ho13 (by first | exact hsp.bh | exact hsp.bp | exact hsp.br | exact hsp.bc | exact sepO hsp.hp | exact sepO hsp.hr | exact sepO hsp.hc | exact sepO hsp.pr | exact sepO hsp.pc | exact sepO hsp.rc | exact sepO hsp.hp.symm | exact sepO hsp.hr.symm | exact sepO hsp.hc.symm | exact sepO hsp.pr.symm | exact sepO hsp.pc.symm | exact sepO hsp.rc.symm | exact hsp.sh | exact hsp.sp | exact hsp.sr | exact hsp.sc | omega | (simp only [blk_some, hi1_some] at *; omega))
        replace hE := hE.step ho13 (by first | exact hsp.bh | exact hsp.bp | exact hsp.br | exact hsp.bc | exact sepO hsp.hp | exact sepO hsp.hr | exact sepO hsp.hc | exact sepO hsp.pr | exact sepO hsp.pc | exact sepO hsp.rc | exact sepO hsp.hp.symm | exact sepO hsp.hr.symm | exact sepO hsp.hc.symm | exact sepO hsp.pr.symm | exact sepO hsp.pc.symm | exact sepO hsp.rc.symm | exact hsp.sh | exact hsp.sp | exact hsp.sr | exact hsp.sc | omega | (simp only [blk_some, hi1_some] at *; omega))
        replace hlp0 := hlp0.step ho13 (by first | exact hsp.bh | exact hsp.bp | exact hsp.br | exact hsp.bc | exact sepO hsp.hp | exact sepO hsp.hr | exact sepO hsp.hc | exact sepO hsp.pr | exact sepO hsp.pc | exact sepO hsp.rc | exact sepO hsp.hp.symm | exact sepO hsp.hr.symm | exact sepO hsp.hc.symm | exact sepO hsp.pr.symm | exact sepO hsp.pc.symm | exact sepO hsp.rc.symm | exact hsp.sh | exact hsp.sp | exact hsp.sr | exact hsp.sc | omega | (simp only [blk_some, hi1_some] at *; omega))
        refine rg_end ?_
        refine n_then ?_
        refine cut (γ := Unit) [34, 35, 36, 37, 38, 39, 40, 41, 42, 43, 44, 45, 46, 47, 48] (fun _ => [(48, .bool (lkBad S.rs.length (el l (k : Int))))]) (fun _ w_ => Ext w12 w_ ∧ True) ?_ ?_
        ·
          have hcut := Out.refl 0 0 w12
          refine rg ?_
          refine st (mvP rfl) ?_
          refine st (y_fld fld45_0 rfl) ?_
          refine st (y_lb hb8 na3 rfl rfl) ?_
          refine sc cl44 (rlk_is_ok S _ _ _ _ _ hX hS) rfl ?_
          rintro v20 w16 ⟨rfl, ho17⟩
          have hz21 := ho17.size
          replace hX := hX.ext ho17
          replace hb := hb.ext ho17
          replace hh := hh.ext ho17
          replace hp := hp.ext ho17
          replace hr := hr.ext ho17
          replace hc_ := hc_.ext ho17
          replace hf := hf.ext ho17
          replace hL := hL.ext ho17
          replace hE := hE.step ho17 (.inl (Nat.le_refl _))
          replace hlp0 := hlp0.step ho17 (.inl (Nat.le_refl _))
          replace hb8 := hb8.ext ho17
          replace hcut := hcut.step ho17 (.inl (Nat.le_refl _))
          refine st (y_not rfl) ?_
          refine st (mvB rfl) ?_
          refine gspL 39 rfl (fun hg22 => ?_) (fun hg22 => ?_)
          ·
            have hg22n := hg22; try simp only [decide_eq_true_eq, decide_eq_false_iff_not, Bool.not_eq_true', Bool.not_eq_false', Bool.and_eq_true, Bool.or_eq_true, Bool.or_eq_false_iff, Bool.cond_true_right, Bool.cond_false_right, Bool.cond_true_left, Bool.cond_false_left, ne_eq, Decidable.not_not, bne_iff_ne, beq_iff_eq, beq_eq_false_iff_ne, Bool.not_true, Bool.not_false] at hg22n
            simp only [isR, decide_eq_true_eq, decide_eq_false_iff_not] at hg22n
            refine sts rfl rfl hg22 ?_
            refine sts rfl rfl hg22 ?_
            refine sts rfl rfl hg22 ?_
            refine st (y_pickT rfl hg22 (v := .bool _) rfl) ?_
            refine st (mvB rfl) ?_
            refine sts rfl rfl rfl ?_
            refine sts rfl rfl rfl ?_
            refine sts rfl rfl rfl ?_
            refine st (y_pickT rfl rfl (v := .bool _) rfl) ?_
            refine rg_end ?_
            exact n_then ⟨(), _, rfl, same_lk rfl (same_rfl), ⟨vb (by simp only [lkBad, isR, decide_eq_true_eq, decide_eq_false_iff_not, Bool.not_eq_true', Bool.not_eq_eq_eq_not, Bool.not_true, Bool.false_eq_true, false_iff, true_iff, iff_true, iff_false]; omega), trivial⟩, ⟨hcut, trivial⟩⟩
          ·
            have hg22n := hg22; try simp only [decide_eq_true_eq, decide_eq_false_iff_not, Bool.not_eq_true', Bool.not_eq_false', Bool.and_eq_true, Bool.or_eq_true, Bool.or_eq_false_iff, Bool.cond_true_right, Bool.cond_false_right, Bool.cond_true_left, Bool.cond_false_left, ne_eq, Decidable.not_not, bne_iff_ne, beq_iff_eq, beq_eq_false_iff_ne, Bool.not_true, Bool.not_false] at hg22n
            simp only [isR, decide_eq_true_eq, decide_eq_false_iff_not] at hg22n
            refine stg rfl rfl hg22 (y_fld fld45_1 rfl) ?_
            refine stg rfl rfl hg22 (y_lb hb8 na3 rfl rfl) ?_
            refine stg rfl rfl hg22 (y_lss rfl rfl) ?_
            refine st (y_pickF rfl hg22 (v := .bool _) rfl) ?_
            refine st (mvB rfl) ?_
            refine gspL 44 rfl (fun hg23 => ?_) (fun hg23 => ?_)
            ·
              have hg23n := hg23; try simp only [decide_eq_true_eq, decide_eq_false_iff_not, Bool.not_eq_true', Bool.not_eq_false', Bool.and_eq_true, Bool.or_eq_true, Bool.or_eq_false_iff, Bool.cond_true_right, Bool.cond_false_right, Bool.cond_true_left, Bool.cond_false_left, ne_eq, Decidable.not_not, bne_iff_ne, beq_iff_eq, beq_eq_false_iff_ne, Bool.not_true, Bool.not_false] at hg23n
              refine sts rfl rfl hg23 ?_
              refine sts rfl rfl hg23 ?_
              refine sts rfl rfl hg23 ?_
              refine st (y_pickT rfl hg23 (v := .bool _) rfl) ?_
              refine rg_end ?_
              exact n_then ⟨(), _, rfl, same_lk rfl (same_rfl), ⟨vb (by simp only [lkBad, isR, decide_eq_true_eq, decide_eq_false_iff_not, Bool.not_eq_true', Bool.not_eq_eq_eq_not, Bool.not_true, Bool.false_eq_true, false_iff, true_iff, iff_true, iff_false]; omega), trivial⟩, ⟨hcut, trivial⟩⟩
            ·
              have hg23n := hg23; try simp only [decide_eq_true_eq, decide_eq_false_iff_not, Bool.not_eq_true', Bool.not_eq_false', Bool.and_eq_true, Bool.or_eq_true, Bool.or_eq_false_iff, Bool.cond_true_right, Bool.cond_false_right, Bool.cond_true_left, Bool.cond_false_left, ne_eq, Decidable.not_not, bne_iff_ne, beq_iff_eq, beq_eq_false_iff_ne, Bool.not_true, Bool.not_false] at hg23n
              refine stg rfl rfl hg23 (y_fld fld45_1 rfl) ?_
              refine stg rfl rfl hg23 (y_lb hb8 na3 rfl rfl) ?_
              refine stg rfl rfl hg23 (y_gtr rfl rfl) ?_
              refine st (y_pickF rfl hg23 (v := .bool _) rfl) ?_
              refine rg_end ?_
              exact n_then ⟨(), _, rfl, same_lk rfl (same_rfl), ⟨vb (by simp only [lkBad, isR, decide_eq_true_eq, decide_eq_false_iff_not, Bool.not_eq_true', Bool.not_eq_eq_eq_not, Bool.not_true, Bool.false_eq_true, false_iff, true_iff, iff_true, iff_false]; omega), trivial⟩, ⟨hcut, trivial⟩⟩
        ·
          rintro _ hav_ w24 ⟨ho25, _⟩
          have hz26 := ho25.size
          replace hX := hX.ext ho25
          replace hb := hb.ext ho25
          replace hh := hh.ext ho25
          replace hp := hp.ext ho25
          replace hr := hr.ext ho25
          replace hc_ := hc_.ext ho25
          replace hf := hf.ext ho25
          replace hL := hL.ext ho25
          replace hE := hE.step ho25 (.inl (Nat.le_refl _))
          replace hlp0 := hlp0.step ho25 (.inl (Nat.le_refl _))
          replace hb8 := hb8.ext ho25
          refine cnd rfl (fun hc2 => ?_) (fun hc2 => ?_)
          ·
            try simp only [decide_eq_true_eq, decide_eq_false_iff_not, Bool.not_eq_true', Bool.not_eq_false', Bool.and_eq_true, Bool.or_eq_true, Bool.or_eq_false_iff, Bool.cond_true_right, Bool.cond_false_right, Bool.cond_true_left, Bool.cond_false_left, ne_eq, Decidable.not_not, bne_iff_ne, beq_iff_eq, beq_eq_false_iff_ne, Bool.not_true, Bool.not_false] at hc2
            have he := grE2 ht (lk_any hc1 hc2)
            refine wp_seq ?_
            refine rg ?_
            refine st (asI rfl) ?_
            refine rg_end ?_
            refine n_then ?_
            refine wp_ret ?_
            refine r_blk (r_then (r_then (r_blk (r_then (ret1 (v := (.int .i64 _)) Try.results29 rfl ?_)))))
            exact ⟨vi he.symm, by rw [grS_err (by rw [he]; decide)]; exact hX, hE⟩
          ·
            try simp only [decide_eq_true_eq, decide_eq_false_iff_not, Bool.not_eq_true', Bool.not_eq_false', Bool.and_eq_true, Bool.or_eq_true, Bool.or_eq_false_iff, Bool.cond_true_right, Bool.cond_false_right, Bool.cond_true_left, Bool.cond_false_left, ne_eq, Decidable.not_not, bne_iff_ne, beq_iff_eq, beq_eq_false_iff_ne, Bool.not_true, Bool.not_false] at hc2
            have hq : (!lkBad S.rs.length (el l (k : Int))) = true := by rw [hc2]; rfl
            refine wp_skip ?_
            refine n_blk ?_
            refine n_then ?_
            refine rg ?_
            refine st (y_add rfl rfl (by omega)) ?_
            refine st (mvI rfl) ?_
            refine rg_end ?_
            exact n_then ⟨k + 1, _, rfl, same_lk rfl (same_hav rfl (same_lk rfl (same_h0))), ⟨rfl, trivial⟩, ⟨hlp0, by omega, take_all_succ hc1 hall hq⟩, by first | omega | (dsimp only; omega)⟩
      ·
        try simp only [decide_eq_true_eq, decide_eq_false_iff_not, Bool.not_eq_true', Bool.not_eq_false', Bool.and_eq_true, Bool.or_eq_true, Bool.or_eq_false_iff, Bool.cond_true_right, Bool.cond_false_right, Bool.cond_true_left, Bool.cond_false_left, ne_eq, Decidable.not_not, bne_iff_ne, beq_iff_eq, beq_eq_false_iff_ne, Bool.not_true, Bool.not_false] at hc1
        obtain ⟨hbad, hlk⟩ := lk_all (all_take_len hc1 hall)
        refine wp_exit ?_
        refine e_then (e_then (e_blk (?_)))
        refine n_then ?_
        refine wp_seq ?_
        refine wp_seq ?_
        refine rg ?_
        refine st (mvS rfl) ?_
        refine st (y_len Try.underlying46 rfl) ?_
        refine st (y_eql rfl rfl) ?_
        refine rg_end ?_
        refine n_then ?_
        refine cnd rfl (fun hc3 => ?_) (fun hc3 => ?_)
        ·
          try simp only [decide_eq_true_eq, decide_eq_false_iff_not, Bool.not_eq_true', Bool.not_eq_false', Bool.and_eq_true, Bool.or_eq_true, Bool.or_eq_false_iff, Bool.cond_true_right, Bool.cond_false_right, Bool.cond_true_left, Bool.cond_false_left, ne_eq, Decidable.not_not, bne_iff_ne, beq_iff_eq, beq_eq_false_iff_ne, Bool.not_true, Bool.not_false] at hc3
          have he := grE3 ht hbad (.inl (nil_len.2 hc3))
          refine wp_seq ?_
          refine rg ?_
          refine st (asI rfl) ?_
          refine rg_end ?_
          refine n_then ?_
          refine wp_ret ?_
          refine r_then (ret1 (v := (.int .i64 _)) Try.results29 rfl ?_)
          exact ⟨vi he.symm, by rw [grS_err (by rw [he]; decide)]; exact hX, hE⟩
        ·
          try simp only [decide_eq_true_eq, decide_eq_false_iff_not, Bool.not_eq_true', Bool.not_eq_false', Bool.and_eq_true, Bool.or_eq_true, Bool.or_eq_false_iff, Bool.cond_true_right, Bool.cond_false_right, Bool.cond_true_left, Bool.cond_false_left, ne_eq, Decidable.not_not, bne_iff_ne, beq_iff_eq, beq_eq_false_iff_ne, Bool.not_true, Bool.not_false] at hc3
          refine wp_skip ?_
          refine n_then ?_
          refine wp_seq ?_
          refine rg ?_
          refine sd (d_allocR (sz := 1) (m := 144) (lo := w.heap.size) (enc := encB) (e0 := false) zerR78 zerC78 (fun _ => rfl) (by unfold maxLen; omega) (by omega) ?_)
          intro bA w27 hbbA hs29 ho28 hA
          have hz31 := ho28.size
          replace hX := hX.ext ho28
          replace hb := hb.ext ho28
          replace hh := hh.ext ho28
          replace hp := hp.ext ho28
          replace hr := hr.ext ho28
          replace hc_ := hc_.ext ho28
          replace hf := hf.ext ho28
          replace hL := hL.ext ho28
          replace hE := hE.step ho28 (.inl (Nat.le_refl _))
          refine rg_end ?_
          refine n_then ?_
          refine wp_seq ?_
          refine wp_seq ?_
          refine rg ?_
          refine st (mvS rfl) ?_
          refine st (y_len Try.underlying46 rfl) ?_
          refine st (mvI rfl) ?_
          refine rg_end ?_
          refine n_then ?_
          refine wp_block ?_
          refine lp (γ := Nat × List Bool) [6, 11, 55, 56, 57, 58, 59, 60, 61, 62, 63, 64, 65, 66] (fun ⟨k, s⟩ => [(55, .int .i64 (k : Int))]) (fun ⟨k, s⟩ w_ => Out bA (bA + 1) w27 w_ ∧ (k : Int) ≤ l.length ∧ s.length = 144 ∧ Rep s (askAll (l.take k)) ∧ repGo l (fun _ => false) = repGo (l.drop k) (askAll (l.take k)) ∧ Ow 78 encB 1 w.heap.size (bA + 1) w_ (some ⟨bA, 0, none⟩) 144 s) (fun ⟨k, s⟩ => l.length - k) (0, List.replicate 144 false) ⟨rfl, trivial⟩ ⟨Out.refl _ _ _, by simp, by simp, Rep.repl _ _, rfl, hA⟩ ?_
          rintro ⟨k, s⟩ hav_ w32 ⟨ho33, hk, hsl, hRs, hrp, hA⟩
          have hlp1 := ho33
          have hz34 := ho33.size
          replace hX := hX.out ho33 (by first | exact hsp.bh | exact hsp.bp | exact hsp.br | exact hsp.bc | exact sepO hsp.hp | exact sepO hsp.hr | exact sepO hsp.hc | exact sepO hsp.pr | exact sepO hsp.pc | exact sepO hsp.rc | exact sepO hsp.hp.symm | exact sepO hsp.hr.symm | exact sepO hsp.hc.symm | exact sepO hsp.pr.symm | exact sepO hsp.pc.symm | exact sepO hsp.rc.symm | exact hsp.sh | exact hsp.sp | exact hsp.sr | exact hsp.sc | omega | (simp only [blk_some, hi1_some] at *; omega))
          replace hb := hb.out ho33 (by first | exact hsp.bh | exact hsp.bp | exact hsp.br | exact hsp.bc | exact sepO hsp.hp | exact sepO hsp.hr | exact sepO hsp.hc | exact sepO hsp.pr | exact sepO hsp.pc | exact sepO hsp.rc | exact sepO hsp.hp.symm | exact sepO hsp.hr.symm | exact sepO hsp.hc.symm | exact sepO hsp.pr.symm | exact sepO hsp.pc.symm | exact sepO hsp.rc.symm | exact hsp.sh | exact hsp.sp | exact hsp.sr | exact hsp.sc | omega | (simp only [blk_some, hi1_some] at *; omega))
          replace hh := hh.out ho33 (by first | exact hsp.bh | exact hsp.bp | exact hsp.br | exact hsp.bc | exact sepO hsp.hp | exact sepO hsp.hr | exact sepO hsp.hc | exact sepO hsp.pr | exact sepO hsp.pc | exact sepO hsp.rc | exact sepO hsp.hp.symm | exact sepO hsp.hr.symm | exact sepO hsp.hc.symm | exact sepO hsp.pr.symm | exact sepO hsp.pc.symm | exact sepO hsp.rc.symm | exact hsp.sh | exact hsp.sp | exact hsp.sr | exact hsp.sc | omega | (simp only [blk_some, hi1_some] at *; omega))
          replace hp := hp.out ho33 (by first | exact hsp.bh | exact hsp.bp | exact hsp.br | exact hsp.bc | exact sepO hsp.hp | exact sepO hsp.hr | exact sepO hsp.hc | exact sepO hsp.pr | exact sepO hsp.pc | exact sepO hsp.rc | exact sepO hsp.hp.symm | exact sepO hsp.hr.symm | exact sepO hsp.hc.symm | exact sepO hsp.pr.symm | exact sepO hsp.pc.symm | exact sepO hsp.rc.symm | exact hsp.sh | exact hsp.sp | exact hsp.sr | exact hsp.sc | omega | (simp only [blk_some, hi1_some] at *; omega))
          replace hr := hr.out ho33 (by first | exact hsp.bh | exact hsp.bp | exact hsp.br | exact hsp.bc | exact sepO hsp.hp | exact sepO hsp.hr | exact sepO hsp.hc | exact sepO hsp.pr | exact sepO hsp.pc | exact sepO hsp.rc | exact sepO hsp.hp.symm | exact sepO hsp.hr.symm | exact sepO hsp.hc.symm | exact sepO hsp.pr.symm | exact sepO hsp.pc.symm | exact sepO hsp.rc.symm | exact hsp.sh | exact hsp.sp | exact hsp.sr | exact hsp.sc | omega | (simp only [blk_some, hi1_some] at *; omega))
          replace hc_ := hc_.out ho33 (by first | exact hsp.bh | exact hsp.bp | exact hsp.br | exact hsp.bc | exact sepO hsp.hp | exact sepO hsp.hr | exact sepO hsp.hc | exact sepO hsp.pr | exact sepO hsp.pc | exact sepO hsp.rc | exact sepO hsp.hp.symm | exact sepO hsp.hr.symm | exact sepO hsp.hc.symm | exact sepO hsp.pr.symm | exact sepO hsp.pc.symm | exact sepO hsp.rc.symm | exact hsp.sh | exact hsp.sp | exact hsp.sr | exact hsp.sc | omega | (simp only [blk_some, hi1_some] at *; omega))
          replace hf := hf.out ho33 (by first | exact hsp.bh | exact hsp.bp | exact hsp.br | exact hsp.bc | exact sepO hsp.hp | exact sepO hsp.hr | exact sepO hsp.hc | exact sepO hsp.pr | exact sepO hsp.pc | exact sepO hsp.rc | exact sepO hsp.hp.symm | exact sepO hsp.hr.symm | exact sepO hsp.hc.symm | exact sepO hsp.pr.symm | exact sepO hsp.pc.symm | exact sepO hsp.rc.symm | exact hsp.sh | exact hsp.sp | exact hsp.sr | exact hsp.sc | omega | (simp only [blk_some, hi1_some] at *; omega))
          replace hL := hL.out ho33 (by first | exact hsp.bh | exact hsp.bp | exact hsp.br | exact hsp.bc | exact sepO hsp.hp | exact sepO hsp.hr | exact sepO hsp.hc | exact sepO hsp.pr | exact sepO hsp.pc | exact sepO hsp.rc | exact sepO hsp.hp.symm | exact sepO hsp.hr.symm | exact sepO hsp.hc.symm | exact sepO hsp.pr.symm | exact sepO hsp.pc.symm | exact sepO hsp.rc.symm | exact hsp.sh | exact hsp.sp | exact hsp.sr | exact hsp.sc | omega | (simp only [blk_some, hi1_some] at *; omega))
          replace hE := hE.step ho33 (by first | exact hsp.bh | exact hsp.bp | exact hsp.br | exact hsp.bc | exact sepO hsp.hp | exact sepO hsp.hr | exact sepO hsp.hc | exact sepO hsp.pr | exact sepO hsp.pc | exact sepO hsp.rc | exact sepO hsp.hp.symm | exact sepO hsp.hr.symm | exact sepO hsp.hc.symm | exact sepO hsp.pr.symm | exact sepO hsp.pc.symm | exact sepO hsp.rc.symm | exact hsp.sh | exact hsp.sp | exact hsp.sr | exact hsp.sc | omega | (simp only [blk_some, hi1_some] at *; omega))
          refine wp_seq ?_
          refine rg ?_
          refine st (y_lss rfl rfl) ?_
          refine rg_end ?_
          refine n_then ?_
          refine wp_seq ?_
          refine cnd rfl (fun hc4 => ?_) (fun hc4 => ?_)
          ·
            try simp only [decide_eq_true_eq, decide_eq_false_iff_not, Bool.not_eq_true', Bool.not_eq_false', Bool.and_eq_true, Bool.or_eq_true, Bool.or_eq_false_iff, Bool.cond_true_right, Bool.cond_false_right, Bool.cond_true_left, Bool.cond_false_left, ne_eq, Decidable.not_not, bne_iff_ne, beq_iff_eq, beq_eq_false_iff_ne, Bool.not_true, Bool.not_false] at hc4
            have hkl := hlk _ (el_mem (l := l) (i := (k : Int)) (by omega) hc4)
            have hsR := hRs _ hkl.1 (by omega : (el l (k : Int)).rs < s.length)
            refine wp_skip ?_
            refine n_then ?_
            refine wp_seq ?_
            refine wp_block ?_
            refine wp_seq ?_
            refine rg ?_
            refine st (y_ix hL sl46 rfl (rfl) rfl (by omega) (by omega)) ?_
            refine st (y_lw hL agg45 rfl (by omega) (by omega)) ?_
            refine sd (d_allocA zer45 ?_)
            intro b11 w35 hbb11 hs37 ho36 hb11
            have hz38 := ho36.size
            replace hX := hX.ext ho36
            replace hb := hb.ext ho36
            replace hh := hh.ext ho36
            replace hp := hp.ext ho36
            replace hr := hr.ext ho36
            replace hc_ := hc_.ext ho36
            replace hf := hf.ext ho36
            replace hL := hL.ext ho36
            replace hE := hE.step ho36 (.inl (Nat.le_refl _))
            replace hA := hA.ext ho36
            replace hlp1 := hlp1.step ho36 (.inl (Nat.le_refl _))
            refine sd0 (d_stN hb11 rfl rfl sz45 rfl rfl ?_)
            intro w39 hs41 ho40 hb11'
            clear hb11; have hb11 := hb11'; clear hb11'
            have hz42 := ho40.size
            replace hX := hX.out ho40 (by first | exact hsp.bh | exact hsp.bp | exact hsp.br | exact hsp.bc | exact sepO hsp.hp | exact sepO hsp.hr | exact sepO hsp.hc | exact sepO hsp.pr | exact sepO hsp.pc | exact sepO hsp.rc | exact sepO hsp.hp.symm | exact sepO hsp.hr.symm | exact sepO hsp.hc.symm | exact sepO hsp.pr.symm | exact sepO hsp.pc.symm | exact sepO hsp.rc.symm | exact hsp.sh | exact hsp.sp | exact hsp.sr | exact hsp.sc | omega | (simp only [blk_some, hi1_some] at *; omega))
            replace hb := hb.out ho40 (by first | exact hsp.bh | exact hsp.bp | exact hsp.br | exact hsp.bc | exact sepO hsp.hp | exact sepO hsp.hr | exact sepO hsp.hc | exact sepO hsp.pr | exact sepO hsp.pc | exact sepO hsp.rc | exact sepO hsp.hp.symm | exact sepO hsp.hr.symm | exact sepO hsp.hc.symm | exact sepO hsp.pr.symm | exact sepO hsp.pc.symm | exact sepO hsp.rc.symm | exact hsp.sh | exact hsp.sp | exact hsp.sr | exact hsp.sc | omega | (simp only [blk_some, hi1_some] at *; omega))
            replace hh := hh.out ho40 (by first | exact hsp.bh | exact hsp.bp | exact hsp.br | exact hsp.bc | exact sepO hsp.hp | exact sepO hsp.hr | exact sepO hsp.hc | exact sepO hsp.pr | exact sepO hsp.pc | exact sepO hsp.rc | exact sepO hsp.hp.symm | exact sepO hsp.hr.symm | exact sepO hsp.hc.symm | exact sepO hsp.pr.symm | exact sepO hsp.pc.symm | exact sepO hsp.rc.symm | exact hsp.sh | exact hsp.sp | exact hsp.sr | exact hsp.sc | omega | (simp only [blk_some, hi1_some] at *; omega))
            replace hp := hp.out ho40 (by first | exact hsp.bh | exact hsp.bp | exact hsp.br | exact hsp.bc | exact sepO hsp.hp | exact sepO hsp.hr | exact sepO hsp.hc | exact sepO hsp.pr | exact sepO hsp.pc | exact sepO hsp.rc | exact sepO hsp.hp.symm | exact sepO hsp.hr.symm | exact sepO hsp.hc.symm | exact sepO hsp.pr.symm | exact sepO hsp.pc.symm | exact sepO hsp.rc.symm | exact hsp.sh | exact hsp.sp | exact hsp.sr | exact hsp.sc | omega | (simp only [blk_some, hi1_some] at *; omega))
            replace hr := hr.out ho40 (by first | exact hsp.bh | exact hsp.bp | exact hsp.br | exact hsp.bc | exact sepO hsp.hp | exact sepO hsp.hr | exact sepO hsp.hc | exact sepO hsp.pr | exact sepO hsp.pc | exact sepO hsp.rc | exact sepO hsp.hp.symm | exact sepO hsp.hr.symm | exact sepO hsp.hc.symm | exact sepO hsp.pr.symm | exact sepO hsp.pc.symm | exact sepO hsp.rc.symm | exact hsp.sh | exact hsp.sp | exact hsp.sr | exact hsp.sc | omega | (simp only [blk_some, hi1_some] at *; omega))
            replace hc_ := hc_.out ho40 (by first | exact hsp.bh | exact hsp.bp | exact hsp.br | exact hsp.bc | exact sepO hsp.hp | exact sepO hsp.hr | exact sepO hsp.hc | exact sepO hsp.pr | exact sepO hsp.pc | exact sepO hsp.rc | exact sepO hsp.hp.symm | exact sepO hsp.hr.symm | exact sepO hsp.hc.symm | exact sepO hsp.pr.symm | exact sepO hsp.pc.symm | exact sepO hsp.rc.symm | exact hsp.sh | exact hsp.sp | exact hsp.sr | exact hsp.sc | omega | (simp only [blk_some, hi1_some] at *; omega))
            replace hf := hf.out ho40 (by first | exact hsp.bh | exact hsp.bp | exact hsp.br | exact hsp.bc | exact sepO hsp.hp | exact sepO hsp.hr | exact sepO hsp.hc | exact sepO hsp.pr | exact sepO hsp.pc | exact sepO hsp.rc | exact sepO hsp.hp.symm | exact sepO hsp.hr.symm | exact sepO hsp.hc.symm | exact sepO hsp.pr.symm | exact sepO hsp.pc.symm | exact sepO hsp.rc.symm | exact hsp.sh | exact hsp.sp | exact hsp.sr | exact hsp.sc | omega | (simp only [blk_some, hi1_some] at *; omega))
            replace hL := hL.out ho40 (by first | exact hsp.bh | exact hsp.bp | exact hsp.br | exact hsp.bc | exact sepO hsp.hp | exact sepO hsp.hr | exact sepO hsp.hc | exact sepO hsp.pr | exact sepO hsp.pc | exact sepO hsp.rc | exact sepO hsp.hp.symm | exact sepO hsp.hr.symm | exact sepO hsp.hc.symm | exact sepO hsp.pr.symm | exact sepO hsp.pc.symm | exact sepO hsp.rc.symm | exact hsp.sh | exact hsp.sp | exact hsp.sr | exact hsp.sc | omega | (simp only [blk_some, hi1_some] at *; omega))
            replace hE := hE.step ho40 (by first | exact hsp.bh | exact hsp.bp | exact hsp.br | exact hsp.bc | exact sepO hsp.hp | exact sepO hsp.hr | exact sepO hsp.hc | exact sepO hsp.pr | exact sepO hsp.pc | exact sepO hsp.rc | exact sepO hsp.hp.symm | exact sepO hsp.hr.symm | exact sepO hsp.hc.symm | exact sepO hsp.pr.symm | exact sepO hsp.pc.symm | exact sepO hsp.rc.symm | exact hsp.sh | exact hsp.sp | exact hsp.sr | exact hsp.sc | omega | (simp only [blk_some, hi1_some] at *; omega))
            replace hA := hA.out ho40 (by first | exact hsp.bh | exact hsp.bp | exact hsp.br | exact hsp.bc | exact sepO hsp.hp | exact sepO hsp.hr | exact sepO hsp.hc | exact sepO hsp.pr | exact sepO hsp.pc | exact sepO hsp.rc | exact sepO hsp.hp.symm | exact sepO hsp.hr.symm | exact sepO hsp.hc.symm | exact sepO hsp.pr.symm | exact sepO hsp.pc.symm | exact sepO hsp.rc.symm | exact hsp.sh | exact hsp.sp | exact hsp.sr | exact hsp.sc | omega | (simp only [blk_some, hi1_some] at *; omega))
            replace hlp1 := hlp1.step ho40 (by first | exact hsp.bh | exact hsp.bp | exact hsp.br | exact hsp.bc | exact sepO hsp.hp | exact sepO hsp.hr | exact sepO hsp.hc | exact sepO hsp.pr | exact sepO hsp.pc | exact sepO hsp.rc | exact sepO hsp.hp.symm | exact sepO hsp.hr.symm | exact sepO hsp.hc.symm | exact sepO hsp.pr.symm | exact sepO hsp.pc.symm | exact sepO hsp.rc.symm | exact hsp.sh | exact hsp.sp | exact hsp.sr | exact hsp.sc | omega | (simp only [blk_some, hi1_some] at *; omega))
            refine rg_end ?_
            refine n_then ?_
            refine wp_seq ?_
            refine wp_seq ?_
            refine rg ?_
            refine st (y_fld fld45_0 rfl) ?_
            refine st (y_lb hb11 na3 rfl rfl) ?_
            refine st (y_ixR Try.underlying78 sz4 rfl rfl rfl (by omega) (by omega)) ?_
            refine st (y_le hA.sl na4 rfl (by omega) (by omega) rfl) ?_
            refine rg_end ?_
            refine n_then ?_
            refine cnd rfl (fun hc5 => ?_) (fun hc5 => ?_)
            ·
              try simp only [decide_eq_true_eq, decide_eq_false_iff_not, Bool.not_eq_true', Bool.not_eq_false', Bool.and_eq_true, Bool.or_eq_true, Bool.or_eq_false_iff, Bool.cond_true_right, Bool.cond_false_right, Bool.cond_true_left, Bool.cond_false_left, ne_eq, Decidable.not_not, bne_iff_ne, beq_iff_eq, beq_eq_false_iff_ne, Bool.not_true, Bool.not_false] at hc5
              have he := grE3 ht hbad (.inr (rep_yes hc4 hrp (hsR.symm.trans hc5)))
              refine wp_seq ?_
              refine rg ?_
              refine st (asI rfl) ?_
              refine rg_end ?_
              refine n_then ?_
              refine wp_ret ?_
              refine r_then (r_blk (r_then (r_then (r_blk (r_then (ret1 (v := (.int .i64 _)) Try.results29 rfl ?_))))))
              exact ⟨vi he.symm, by rw [grS_err (by rw [he]; decide)]; exact hX, hE⟩
            ·
              try simp only [decide_eq_true_eq, decide_eq_false_iff_not, Bool.not_eq_true', Bool.not_eq_false', Bool.and_eq_true, Bool.or_eq_true, Bool.or_eq_false_iff, Bool.cond_true_right, Bool.cond_false_right, Bool.cond_true_left, Bool.cond_false_left, ne_eq, Decidable.not_not, bne_iff_ne, beq_iff_eq, beq_eq_false_iff_ne, Bool.not_true, Bool.not_false] at hc5
              have hstep := rep_step hc4 hrp (hsR.symm.trans hc5)
              rw [← ask_step hc4] at hstep
              have hRs1 := hRs.set (v := true) hkl.1 (by omega : (el l (k : Int)).rs < s.length)
              rw [← ask_step hc4] at hRs1
              refine wp_skip ?_
              refine n_then ?_
              refine rg ?_
              refine st (y_fld fld45_0 rfl) ?_
              refine st (y_lb hb11 na3 rfl rfl) ?_
              refine st (y_ixR Try.underlying78 sz4 rfl rfl rfl (by omega) (by omega)) ?_
              refine sd0 (d_se (j := 0) (e' := true) hA sz4 rfl rfl rfl (by omega) (by omega) (Nat.le_of_ble_eq_true rfl) rfl ?_)
              intro w43 hs45 ho44 hA'
              clear hA; have hA := hA'; clear hA'
              have hz46 := ho44.size
              replace hX := hX.out ho44 (by first | exact hsp.bh | exact hsp.bp | exact hsp.br | exact hsp.bc | exact sepO hsp.hp | exact sepO hsp.hr | exact sepO hsp.hc | exact sepO hsp.pr | exact sepO hsp.pc | exact sepO hsp.rc | exact sepO hsp.hp.symm | exact sepO hsp.hr.symm | exact sepO hsp.hc.symm | exact sepO hsp.pr.symm | exact sepO hsp.pc.symm | exact sepO hsp.rc.symm | exact hsp.sh | exact hsp.sp | exact hsp.sr | exact hsp.sc | omega | (simp only [blk_some, hi1_some] at *; omega))
              replace hb := hb.out ho44 (by first | exact hsp.bh | exact hsp.bp | exact hsp.br | exact hsp.bc | exact sepO hsp.hp | exact sepO hsp.hr | exact sepO hsp.hc | exact sepO hsp.pr | exact sepO hsp.pc | exact sepO hsp.rc | exact sepO hsp.hp.symm | exact sepO hsp.hr.symm | exact sepO hsp.hc.symm | exact sepO hsp.pr.symm | exact sepO hsp.pc.symm | exact sepO hsp.rc.symm | exact hsp.sh | exact hsp.sp | exact hsp.sr | exact hsp.sc | omega | (simp only [blk_some, hi1_some] at *; omega))
              replace hh := hh.out ho44 (by first | exact hsp.bh | exact hsp.bp | exact hsp.br | exact hsp.bc | exact sepO hsp.hp | exact sepO hsp.hr | exact sepO hsp.hc | exact sepO hsp.pr | exact sepO hsp.pc | exact sepO hsp.rc | exact sepO hsp.hp.symm | exact sepO hsp.hr.symm | exact sepO hsp.hc.symm | exact sepO hsp.pr.symm | exact sepO hsp.pc.symm | exact sepO hsp.rc.symm | exact hsp.sh | exact hsp.sp | exact hsp.sr | exact hsp.sc | omega | (simp only [blk_some, hi1_some] at *; omega))
              replace hp := hp.out ho44 (by first | exact hsp.bh | exact hsp.bp | exact hsp.br | exact hsp.bc | exact sepO hsp.hp | exact sepO hsp.hr | exact sepO hsp.hc | exact sepO hsp.pr | exact sepO hsp.pc | exact sepO hsp.rc | exact sepO hsp.hp.symm | exact sepO hsp.hr.symm | exact sepO hsp.hc.symm | exact sepO hsp.pr.symm | exact sepO hsp.pc.symm | exact sepO hsp.rc.symm | exact hsp.sh | exact hsp.sp | exact hsp.sr | exact hsp.sc | omega | (simp only [blk_some, hi1_some] at *; omega))
              replace hr := hr.out ho44 (by first | exact hsp.bh | exact hsp.bp | exact hsp.br | exact hsp.bc | exact sepO hsp.hp | exact sepO hsp.hr | exact sepO hsp.hc | exact sepO hsp.pr | exact sepO hsp.pc | exact sepO hsp.rc | exact sepO hsp.hp.symm | exact sepO hsp.hr.symm | exact sepO hsp.hc.symm | exact sepO hsp.pr.symm | exact sepO hsp.pc.symm | exact sepO hsp.rc.symm | exact hsp.sh | exact hsp.sp | exact hsp.sr | exact hsp.sc | omega | (simp only [blk_some, hi1_some] at *; omega))
              replace hc_ := hc_.out ho44 (by first | exact hsp.bh | exact hsp.bp | exact hsp.br | exact hsp.bc | exact sepO hsp.hp | exact sepO hsp.hr | exact sepO hsp.hc | exact sepO hsp.pr | exact sepO hsp.pc | exact sepO hsp.rc | exact sepO hsp.hp.symm | exact sepO hsp.hr.symm | exact sepO hsp.hc.symm | exact sepO hsp.pr.symm | exact sepO hsp.pc.symm | exact sepO hsp.rc.symm | exact hsp.sh | exact hsp.sp | exact hsp.sr | exact hsp.sc | omega | (simp only [blk_some, hi1_some] at *; omega))
              replace hf := hf.out ho44 (by first | exact hsp.bh | exact hsp.bp | exact hsp.br | exact hsp.bc | exact sepO hsp.hp | exact sepO hsp.hr | exact sepO hsp.hc | exact sepO hsp.pr | exact sepO hsp.pc | exact sepO hsp.rc | exact sepO hsp.hp.symm | exact sepO hsp.hr.symm | exact sepO hsp.hc.symm | exact sepO hsp.pr.symm | exact sepO hsp.pc.symm | exact sepO hsp.rc.symm | exact hsp.sh | exact hsp.sp | exact hsp.sr | exact hsp.sc | omega | (simp only [blk_some, hi1_some] at *; omega))
              replace hL := hL.out ho44 (by first | exact hsp.bh | exact hsp.bp | exact hsp.br | exact hsp.bc | exact sepO hsp.hp | exact sepO hsp.hr | exact sepO hsp.hc | exact sepO hsp.pr | exact sepO hsp.pc | exact sepO hsp.rc | exact sepO hsp.hp.symm | exact sepO hsp.hr.symm | exact sepO hsp.hc.symm | exact sepO hsp.pr.symm | exact sepO hsp.pc.symm | exact sepO hsp.rc.symm | exact hsp.sh | exact hsp.sp | exact hsp.sr | exact hsp.sc | omega | (simp only [blk_some, hi1_some] at *; omega))
              replace hE := hE.step ho44 (by first | exact hsp.bh | exact hsp.bp | exact hsp.br | exact hsp.bc | exact sepO hsp.hp | exact sepO hsp.hr | exact sepO hsp.hc | exact sepO hsp.pr | exact sepO hsp.pc | exact sepO hsp.rc | exact sepO hsp.hp.symm | exact sepO hsp.hr.symm | exact sepO hsp.hc.symm | exact sepO hsp.pr.symm | exact sepO hsp.pc.symm | exact sepO hsp.rc.symm | exact hsp.sh | exact hsp.sp | exact hsp.sr | exact hsp.sc | omega | (simp only [blk_some, hi1_some] at *; omega))
              replace hlp1 := hlp1.step ho44 (by first | exact hsp.bh | exact hsp.bp | exact hsp.br | exact hsp.bc | exact sepO hsp.hp | exact sepO hsp.hr | exact sepO hsp.hc | exact sepO hsp.pr | exact sepO hsp.pc | exact sepO hsp.rc | exact sepO hsp.hp.symm | exact sepO hsp.hr.symm | exact sepO hsp.hc.symm | exact sepO hsp.pr.symm | exact sepO hsp.pc.symm | exact sepO hsp.rc.symm | exact hsp.sh | exact hsp.sp | exact hsp.sr | exact hsp.sc | omega | (simp only [blk_some, hi1_some] at *; omega))
              replace hb11 := hb11.out ho44 (by first | exact hsp.bh | exact hsp.bp | exact hsp.br | exact hsp.bc | exact sepO hsp.hp | exact sepO hsp.hr | exact sepO hsp.hc | exact sepO hsp.pr | exact sepO hsp.pc | exact sepO hsp.rc | exact sepO hsp.hp.symm | exact sepO hsp.hr.symm | exact sepO hsp.hc.symm | exact sepO hsp.pr.symm | exact sepO hsp.pc.symm | exact sepO hsp.rc.symm | exact hsp.sh | exact hsp.sp | exact hsp.sr | exact hsp.sc | omega | (simp only [blk_some, hi1_some] at *; omega))
              refine rg_end ?_
              refine n_blk ?_
              refine n_then ?_
              refine rg ?_
              refine st (y_add rfl rfl (by omega)) ?_
              refine st (mvI rfl) ?_
              refine rg_end ?_
              exact n_then ⟨(k + 1, _), _, rfl, same_lk rfl (same_h0), ⟨rfl, trivial⟩, ⟨hlp1, by omega, by simp [hsl], hRs1, hstep, hA⟩, by first | omega | (dsimp only; omega)⟩
          ·
            try simp only [decide_eq_true_eq, decide_eq_false_iff_not, Bool.not_eq_true', Bool.not_eq_false', Bool.and_eq_true, Bool.or_eq_true, Bool.or_eq_false_iff, Bool.cond_true_right, Bool.cond_false_right, Bool.cond_true_left, Bool.cond_false_left, ne_eq, Decidable.not_not, bne_iff_ne, beq_iff_eq, beq_eq_false_iff_ne, Bool.not_true, Bool.not_false] at hc4
            have hrep := rep_end hc4 hrp
            have hc3' : ¬ (l = [] ∨ repGo l (fun _ => false) = true) := fun h => h.elim (fun e => hc3 (nil_len.1 e)) (fun e => by rw [hrep] at e; cases e)
            rw [take_end hc4] at hRs
            refine wp_exit ?_
            refine e_then (e_then (e_blk (?_)))
            refine n_then ?_
            refine wp_seq ?_
            refine rg ?_
            refine sd (d_allocR (sz := 1) (m := 144) (lo := w.heap.size) (enc := encI) (e0 := (0 : Int)) zerR79 zerC79 (fun _ => rfl) (by unfold maxLen; omega) (by omega) ?_)
            intro bV w47 hbbV hs49 ho48 hV
            have hz51 := ho48.size
            replace hX := hX.ext ho48
            replace hb := hb.ext ho48
            replace hh := hh.ext ho48
            replace hp := hp.ext ho48
            replace hr := hr.ext ho48
            replace hc_ := hc_.ext ho48
            replace hf := hf.ext ho48
            replace hL := hL.ext ho48
            replace hE := hE.step ho48 (.inl (Nat.le_refl _))
            replace hA := hA.ext ho48
            refine rg_end ?_
            refine n_then ?_
            refine wp_seq ?_
            refine rg ?_
            refine sd (d_allocR (sz := 1) (m := 144) (lo := w.heap.size) (enc := encB) (e0 := false) zerR78 zerC78 (fun _ => rfl) (by unfold maxLen; omega) (by omega) ?_)
            intro bN w52 hbbN hs54 ho53 hN
            have hz56 := ho53.size
            replace hX := hX.ext ho53
            replace hb := hb.ext ho53
            replace hh := hh.ext ho53
            replace hp := hp.ext ho53
            replace hr := hr.ext ho53
            replace hc_ := hc_.ext ho53
            replace hf := hf.ext ho53
            replace hL := hL.ext ho53
            replace hE := hE.step ho53 (.inl (Nat.le_refl _))
            replace hA := hA.ext ho53
            replace hV := hV.ext ho53
            refine rg_end ?_
            refine n_then ?_
            refine wp_seq ?_
            refine wp_seq ?_
            refine rg ?_
            refine st (mvS rfl) ?_
            refine st (y_len Try.underlying46 rfl) ?_
            refine st (mvI rfl) ?_
            refine rg_end ?_
            refine n_then ?_
            refine wp_block ?_
            refine lp (γ := Nat × List Int × List Bool × (Int → Int)) [6, 15, 16, 69, 70, 71, 72, 73, 74, 75, 76, 77, 78, 79, 80, 81, 82, 83, 84, 85, 86, 87, 88, 89, 90, 91, 92, 93, 94, 95, 96, 97, 98, 99, 100, 101, 102, 103, 104, 105, 106, 107, 108, 109, 110, 111] (fun ⟨k, V, N_, Vf⟩ => [(69, .int .i64 (k : Int))]) (fun ⟨k, V, N_, Vf⟩ w_ => Out bV (bN + 1) w52 w_ ∧ (k : Int) ≤ l.length ∧ V.length = 144 ∧ N_.length = 144 ∧ Rep V Vf ∧ AskV S (l.take k) Vf ∧ Rep N_ (nw S (l.take k)) ∧ lksE S t l = lksE S t (l.drop k) ∧ Ow 79 encI 1 w.heap.size (bV + 1) w_ (some ⟨bV, 0, none⟩) 144 V ∧ Ow 78 encB 1 w.heap.size (bN + 1) w_ (some ⟨bN, 0, none⟩) 144 N_) (fun ⟨k, V, N_, Vf⟩ => l.length - k) (0, List.replicate 144 0, List.replicate 144 false, fun _ => 0) ⟨rfl, trivial⟩ ⟨Out.refl _ _ _, by simp, by simp, by simp, Rep.repl _ _, (fun i h => by simp [askAll] at h), Rep.repl _ _, rfl, hV, hN⟩ ?_
            rintro ⟨k, V, N_, Vf⟩ hav_ w57 ⟨ho58, hk, hVl, hNl, hRv, hAV, hRn, hls, hV, hN⟩
            have hlp2 := ho58
            have hz59 := ho58.size
            replace hX := hX.out ho58 (by first | exact hsp.bh | exact hsp.bp | exact hsp.br | exact hsp.bc | exact sepO hsp.hp | exact sepO hsp.hr | exact sepO hsp.hc | exact sepO hsp.pr | exact sepO hsp.pc | exact sepO hsp.rc | exact sepO hsp.hp.symm | exact sepO hsp.hr.symm | exact sepO hsp.hc.symm | exact sepO hsp.pr.symm | exact sepO hsp.pc.symm | exact sepO hsp.rc.symm | exact hsp.sh | exact hsp.sp | exact hsp.sr | exact hsp.sc | omega | (simp only [blk_some, hi1_some] at *; omega))
            replace hb := hb.out ho58 (by first | exact hsp.bh | exact hsp.bp | exact hsp.br | exact hsp.bc | exact sepO hsp.hp | exact sepO hsp.hr | exact sepO hsp.hc | exact sepO hsp.pr | exact sepO hsp.pc | exact sepO hsp.rc | exact sepO hsp.hp.symm | exact sepO hsp.hr.symm | exact sepO hsp.hc.symm | exact sepO hsp.pr.symm | exact sepO hsp.pc.symm | exact sepO hsp.rc.symm | exact hsp.sh | exact hsp.sp | exact hsp.sr | exact hsp.sc | omega | (simp only [blk_some, hi1_some] at *; omega))
            replace hh := hh.out ho58 (by first | exact hsp.bh | exact hsp.bp | exact hsp.br | exact hsp.bc | exact sepO hsp.hp | exact sepO hsp.hr | exact sepO hsp.hc | exact sepO hsp.pr | exact sepO hsp.pc | exact sepO hsp.rc | exact sepO hsp.hp.symm | exact sepO hsp.hr.symm | exact sepO hsp.hc.symm | exact sepO hsp.pr.symm | exact sepO hsp.pc.symm | exact sepO hsp.rc.symm | exact hsp.sh | exact hsp.sp | exact hsp.sr | exact hsp.sc | omega | (simp only [blk_some, hi1_some] at *; omega))
            replace hp := hp.out ho58 (by first | exact hsp.bh | exact hsp.bp | exact hsp.br | exact hsp.bc | exact sepO hsp.hp | exact sepO hsp.hr | exact sepO hsp.hc | exact sepO hsp.pr | exact sepO hsp.pc | exact sepO hsp.rc | exact sepO hsp.hp.symm | exact sepO hsp.hr.symm | exact sepO hsp.hc.symm | exact sepO hsp.pr.symm | exact sepO hsp.pc.symm | exact sepO hsp.rc.symm | exact hsp.sh | exact hsp.sp | exact hsp.sr | exact hsp.sc | omega | (simp only [blk_some, hi1_some] at *; omega))
            replace hr := hr.out ho58 (by first | exact hsp.bh | exact hsp.bp | exact hsp.br | exact hsp.bc | exact sepO hsp.hp | exact sepO hsp.hr | exact sepO hsp.hc | exact sepO hsp.pr | exact sepO hsp.pc | exact sepO hsp.rc | exact sepO hsp.hp.symm | exact sepO hsp.hr.symm | exact sepO hsp.hc.symm | exact sepO hsp.pr.symm | exact sepO hsp.pc.symm | exact sepO hsp.rc.symm | exact hsp.sh | exact hsp.sp | exact hsp.sr | exact hsp.sc | omega | (simp only [blk_some, hi1_some] at *; omega))
            replace hc_ := hc_.out ho58 (by first | exact hsp.bh | exact hsp.bp | exact hsp.br | exact hsp.bc | exact sepO hsp.hp | exact sepO hsp.hr | exact sepO hsp.hc | exact sepO hsp.pr | exact sepO hsp.pc | exact sepO hsp.rc | exact sepO hsp.hp.symm | exact sepO hsp.hr.symm | exact sepO hsp.hc.symm | exact sepO hsp.pr.symm | exact sepO hsp.pc.symm | exact sepO hsp.rc.symm | exact hsp.sh | exact hsp.sp | exact hsp.sr | exact hsp.sc | omega | (simp only [blk_some, hi1_some] at *; omega))
            replace hf := hf.out ho58 (by first | exact hsp.bh | exact hsp.bp | exact hsp.br | exact hsp.bc | exact sepO hsp.hp | exact sepO hsp.hr | exact sepO hsp.hc | exact sepO hsp.pr | exact sepO hsp.pc | exact sepO hsp.rc | exact sepO hsp.hp.symm | exact sepO hsp.hr.symm | exact sepO hsp.hc.symm | exact sepO hsp.pr.symm | exact sepO hsp.pc.symm | exact sepO hsp.rc.symm | exact hsp.sh | exact hsp.sp | exact hsp.sr | exact hsp.sc | omega | (simp only [blk_some, hi1_some] at *; omega))
            replace hL := hL.out ho58 (by first | exact hsp.bh | exact hsp.bp | exact hsp.br | exact hsp.bc | exact sepO hsp.hp | exact sepO hsp.hr | exact sepO hsp.hc | exact sepO hsp.pr | exact sepO hsp.pc | exact sepO hsp.rc | exact sepO hsp.hp.symm | exact sepO hsp.hr.symm | exact sepO hsp.hc.symm | exact sepO hsp.pr.symm | exact sepO hsp.pc.symm | exact sepO hsp.rc.symm | exact hsp.sh | exact hsp.sp | exact hsp.sr | exact hsp.sc | omega | (simp only [blk_some, hi1_some] at *; omega))
            replace hE := hE.step ho58 (by first | exact hsp.bh | exact hsp.bp | exact hsp.br | exact hsp.bc | exact sepO hsp.hp | exact sepO hsp.hr | exact sepO hsp.hc | exact sepO hsp.pr | exact sepO hsp.pc | exact sepO hsp.rc | exact sepO hsp.hp.symm | exact sepO hsp.hr.symm | exact sepO hsp.hc.symm | exact sepO hsp.pr.symm | exact sepO hsp.pc.symm | exact sepO hsp.rc.symm | exact hsp.sh | exact hsp.sp | exact hsp.sr | exact hsp.sc | omega | (simp only [blk_some, hi1_some] at *; omega))
            replace hA := hA.out ho58 (by first | exact hsp.bh | exact hsp.bp | exact hsp.br | exact hsp.bc | exact sepO hsp.hp | exact sepO hsp.hr | exact sepO hsp.hc | exact sepO hsp.pr | exact sepO hsp.pc | exact sepO hsp.rc | exact sepO hsp.hp.symm | exact sepO hsp.hr.symm | exact sepO hsp.hc.symm | exact sepO hsp.pr.symm | exact sepO hsp.pc.symm | exact sepO hsp.rc.symm | exact hsp.sh | exact hsp.sp | exact hsp.sr | exact hsp.sc | omega | (simp only [blk_some, hi1_some] at *; omega))
            refine wp_seq ?_
            refine rg ?_
            refine st (y_lss rfl rfl) ?_
            refine rg_end ?_
            refine n_then ?_
            refine wp_seq ?_
            refine cnd rfl (fun hc6 => ?_) (fun hc6 => ?_)
            ·
              try simp only [decide_eq_true_eq, decide_eq_false_iff_not, Bool.not_eq_true', Bool.not_eq_false', Bool.and_eq_true, Bool.or_eq_true, Bool.or_eq_false_iff, Bool.cond_true_right, Bool.cond_false_right, Bool.cond_true_left, Bool.cond_false_left, ne_eq, Decidable.not_not, bne_iff_ne, beq_iff_eq, beq_eq_false_iff_ne, Bool.not_true, Bool.not_false] at hc6
              have hkl := hlk _ (el_mem (l := l) (i := (k : Int)) (by omega) hc6)
              have hho := hS.ho _ (el_mem (l := S.rs) hkl.1 hkl.2.1)
              have e_ho := el_map (l := S.rs) (g := Rs.ho) (i := (el l (k : Int)).rs) hkl.1 hkl.2.1
              have e_po := el_map (l := S.rs) (g := Rs.po) (i := (el l (k : Int)).rs) hkl.1 hkl.2.1
              refine wp_skip ?_
              refine n_then ?_
              refine wp_seq ?_
              refine wp_block ?_
              refine wp_seq ?_
              refine rg ?_
              refine st (y_ix hL sl46 rfl (rfl) rfl (by omega) (by omega)) ?_
              refine st (y_lw hL agg45 rfl (by omega) (by omega)) ?_
              refine sd (d_allocA zer45 ?_)
              intro b15 w60 hbb15 hs62 ho61 hb15
              have hz63 := ho61.size
              replace hX := hX.ext ho61
              replace hb := hb.ext ho61
              replace hh := hh.ext ho61
              replace hp := hp.ext ho61
              replace hr := hr.ext ho61
              replace hc_ := hc_.ext ho61
              replace hf := hf.ext ho61
              replace hL := hL.ext ho61
              replace hE := hE.step ho61 (.inl (Nat.le_refl _))
              replace hA := hA.ext ho61
              replace hV := hV.ext ho61
              replace hN := hN.ext ho61
              replace hlp2 := hlp2.step ho61 (.inl (Nat.le_refl _))
              refine sd0 (d_stN hb15 rfl rfl sz45 rfl rfl ?_)
              intro w64 hs66 ho65 hb15'
              clear hb15; have hb15 := hb15'; clear hb15'
              have hz67 := ho65.size
              replace hX := hX.out ho65 (by first | exact hsp.bh | exact hsp.bp | exact hsp.br | exact hsp.bc | exact sepO hsp.hp | exact sepO hsp.hr | exact sepO hsp.hc | exact sepO hsp.pr | exact sepO hsp.pc | exact sepO hsp.rc | exact sepO hsp.hp.symm | exact sepO hsp.hr.symm | exact sepO hsp.hc.symm | exact sepO hsp.pr.symm | exact sepO hsp.pc.symm | exact sepO hsp.rc.symm | exact hsp.sh | exact hsp.sp | exact hsp.sr | exact hsp.sc | omega | (simp only [blk_some, hi1_some] at *; omega))
              replace hb := hb.out ho65 (by first | exact hsp.bh | exact hsp.bp | exact hsp.br | exact hsp.bc | exact sepO hsp.hp | exact sepO hsp.hr | exact sepO hsp.hc | exact sepO hsp.pr | exact sepO hsp.pc | exact sepO hsp.rc | exact sepO hsp.hp.symm | exact sepO hsp.hr.symm | exact sepO hsp.hc.symm | exact sepO hsp.pr.symm | exact sepO hsp.pc.symm | exact sepO hsp.rc.symm | exact hsp.sh | exact hsp.sp | exact hsp.sr | exact hsp.sc | omega | (simp only [blk_some, hi1_some] at *; omega))
              replace hh := hh.out ho65 (by first | exact hsp.bh | exact hsp.bp | exact hsp.br | exact hsp.bc | exact sepO hsp.hp | exact sepO hsp.hr | exact sepO hsp.hc | exact sepO hsp.pr | exact sepO hsp.pc | exact sepO hsp.rc | exact sepO hsp.hp.symm | exact sepO hsp.hr.symm | exact sepO hsp.hc.symm | exact sepO hsp.pr.symm | exact sepO hsp.pc.symm | exact sepO hsp.rc.symm | exact hsp.sh | exact hsp.sp | exact hsp.sr | exact hsp.sc | omega | (simp only [blk_some, hi1_some] at *; omega))
              replace hp := hp.out ho65 (by first | exact hsp.bh | exact hsp.bp | exact hsp.br | exact hsp.bc | exact sepO hsp.hp | exact sepO hsp.hr | exact sepO hsp.hc | exact sepO hsp.pr | exact sepO hsp.pc | exact sepO hsp.rc | exact sepO hsp.hp.symm | exact sepO hsp.hr.symm | exact sepO hsp.hc.symm | exact sepO hsp.pr.symm | exact sepO hsp.pc.symm | exact sepO hsp.rc.symm | exact hsp.sh | exact hsp.sp | exact hsp.sr | exact hsp.sc | omega | (simp only [blk_some, hi1_some] at *; omega))
              replace hr := hr.out ho65 (by first | exact hsp.bh | exact hsp.bp | exact hsp.br | exact hsp.bc | exact sepO hsp.hp | exact sepO hsp.hr | exact sepO hsp.hc | exact sepO hsp.pr | exact sepO hsp.pc | exact sepO hsp.rc | exact sepO hsp.hp.symm | exact sepO hsp.hr.symm | exact sepO hsp.hc.symm | exact sepO hsp.pr.symm | exact sepO hsp.pc.symm | exact sepO hsp.rc.symm | exact hsp.sh | exact hsp.sp | exact hsp.sr | exact hsp.sc | omega | (simp only [blk_some, hi1_some] at *; omega))
              replace hc_ := hc_.out ho65 (by first | exact hsp.bh | exact hsp.bp | exact hsp.br | exact hsp.bc | exact sepO hsp.hp | exact sepO hsp.hr | exact sepO hsp.hc | exact sepO hsp.pr | exact sepO hsp.pc | exact sepO hsp.rc | exact sepO hsp.hp.symm | exact sepO hsp.hr.symm | exact sepO hsp.hc.symm | exact sepO hsp.pr.symm | exact sepO hsp.pc.symm | exact sepO hsp.rc.symm | exact hsp.sh | exact hsp.sp | exact hsp.sr | exact hsp.sc | omega | (simp only [blk_some, hi1_some] at *; omega))
              replace hf := hf.out ho65 (by first | exact hsp.bh | exact hsp.bp | exact hsp.br | exact hsp.bc | exact sepO hsp.hp | exact sepO hsp.hr | exact sepO hsp.hc | exact sepO hsp.pr | exact sepO hsp.pc | exact sepO hsp.rc | exact sepO hsp.hp.symm | exact sepO hsp.hr.symm | exact sepO hsp.hc.symm | exact sepO hsp.pr.symm | exact sepO hsp.pc.symm | exact sepO hsp.rc.symm | exact hsp.sh | exact hsp.sp | exact hsp.sr | exact hsp.sc | omega | (simp only [blk_some, hi1_some] at *; omega))
              replace hL := hL.out ho65 (by first | exact hsp.bh | exact hsp.bp | exact hsp.br | exact hsp.bc | exact sepO hsp.hp | exact sepO hsp.hr | exact sepO hsp.hc | exact sepO hsp.pr | exact sepO hsp.pc | exact sepO hsp.rc | exact sepO hsp.hp.symm | exact sepO hsp.hr.symm | exact sepO hsp.hc.symm | exact sepO hsp.pr.symm | exact sepO hsp.pc.symm | exact sepO hsp.rc.symm | exact hsp.sh | exact hsp.sp | exact hsp.sr | exact hsp.sc | omega | (simp only [blk_some, hi1_some] at *; omega))
              replace hE := hE.step ho65 (by first | exact hsp.bh | exact hsp.bp | exact hsp.br | exact hsp.bc | exact sepO hsp.hp | exact sepO hsp.hr | exact sepO hsp.hc | exact sepO hsp.pr | exact sepO hsp.pc | exact sepO hsp.rc | exact sepO hsp.hp.symm | exact sepO hsp.hr.symm | exact sepO hsp.hc.symm | exact sepO hsp.pr.symm | exact sepO hsp.pc.symm | exact sepO hsp.rc.symm | exact hsp.sh | exact hsp.sp | exact hsp.sr | exact hsp.sc | omega | (simp only [blk_some, hi1_some] at *; omega))
              replace hA := hA.out ho65 (by first | exact hsp.bh | exact hsp.bp | exact hsp.br | exact hsp.bc | exact sepO hsp.hp | exact sepO hsp.hr | exact sepO hsp.hc | exact sepO hsp.pr | exact sepO hsp.pc | exact sepO hsp.rc | exact sepO hsp.hp.symm | exact sepO hsp.hr.symm | exact sepO hsp.hc.symm | exact sepO hsp.pr.symm | exact sepO hsp.pc.symm | exact sepO hsp.rc.symm | exact hsp.sh | exact hsp.sp | exact hsp.sr | exact hsp.sc | omega | (simp only [blk_some, hi1_some] at *; omega))
              replace hV := hV.out ho65 (by first | exact hsp.bh | exact hsp.bp | exact hsp.br | exact hsp.bc | exact sepO hsp.hp | exact sepO hsp.hr | exact sepO hsp.hc | exact sepO hsp.pr | exact sepO hsp.pc | exact sepO hsp.rc | exact sepO hsp.hp.symm | exact sepO hsp.hr.symm | exact sepO hsp.hc.symm | exact sepO hsp.pr.symm | exact sepO hsp.pc.symm | exact sepO hsp.rc.symm | exact hsp.sh | exact hsp.sp | exact hsp.sr | exact hsp.sc | omega | (simp only [blk_some, hi1_some] at *; omega))
              replace hN := hN.out ho65 (by first | exact hsp.bh | exact hsp.bp | exact hsp.br | exact hsp.bc | exact sepO hsp.hp | exact sepO hsp.hr | exact sepO hsp.hc | exact sepO hsp.pr | exact sepO hsp.pc | exact sepO hsp.rc | exact sepO hsp.hp.symm | exact sepO hsp.hr.symm | exact sepO hsp.hc.symm | exact sepO hsp.pr.symm | exact sepO hsp.pc.symm | exact sepO hsp.rc.symm | exact hsp.sh | exact hsp.sp | exact hsp.sr | exact hsp.sc | omega | (simp only [blk_some, hi1_some] at *; omega))
              replace hlp2 := hlp2.step ho65 (by first | exact hsp.bh | exact hsp.bp | exact hsp.br | exact hsp.bc | exact sepO hsp.hp | exact sepO hsp.hr | exact sepO hsp.hc | exact sepO hsp.pr | exact sepO hsp.pc | exact sepO hsp.rc | exact sepO hsp.hp.symm | exact sepO hsp.hr.symm | exact sepO hsp.hc.symm | exact sepO hsp.pr.symm | exact sepO hsp.pc.symm | exact sepO hsp.rc.symm | exact hsp.sh | exact hsp.sp | exact hsp.sr | exact hsp.sc | omega | (simp only [blk_some, hi1_some] at *; omega))
              refine rg_end ?_
              refine n_then ?_
              refine wp_seq ?_
              refine wp_seq ?_
              refine rg ?_
              refine st (mvP rfl) ?_
              refine st (mvI rfl) ?_
              refine st (y_lbN hb15 agg45 rfl) ?_
              refine sc cl45 (rlk_lock_ok S _ _ _ _ _ _ hX hS ⟨hkl.1, hkl.2.1⟩ ht.1) rfl ?_
              rintro v72 w68 ⟨rfl, ho69⟩
              have hz73 := ho69.size
              replace hX := hX.ext ho69
              replace hb := hb.ext ho69
              replace hh := hh.ext ho69
              replace hp := hp.ext ho69
              replace hr := hr.ext ho69
              replace hc_ := hc_.ext ho69
              replace hf := hf.ext ho69
              replace hL := hL.ext ho69
              replace hE := hE.step ho69 (.inl (Nat.le_refl _))
              replace hA := hA.ext ho69
              replace hV := hV.ext ho69
              replace hN := hN.ext ho69
              replace hlp2 := hlp2.step ho69 (.inl (Nat.le_refl _))
              replace hb15 := hb15.ext ho69
              refine st (asI rfl) ?_
              refine rg_end ?_
              refine n_then ?_
              refine wp_seq ?_
              refine rg ?_
              refine st (mvI rfl) ?_
              refine st (y_neq rfl rfl) ?_
              refine rg_end ?_
              refine n_then ?_
              refine cnd rfl (fun hc7 => ?_) (fun hc7 => ?_)
              ·
                try simp only [decide_eq_true_eq, decide_eq_false_iff_not, Bool.not_eq_true', Bool.not_eq_false', Bool.and_eq_true, Bool.or_eq_true, Bool.or_eq_false_iff, Bool.cond_true_right, Bool.cond_false_right, Bool.cond_true_left, Bool.cond_false_left, ne_eq, Decidable.not_not, bne_iff_ne, beq_iff_eq, beq_eq_false_iff_ne, Bool.not_true, Bool.not_false] at hc7
                have he := (grE4 ht hbad hc3' (by rw [lks_err hc6 hls hc7]; exact hc7)).trans (lks_err hc6 hls hc7)
                refine wp_seq ?_
                refine rg ?_
                refine st (mvI rfl) ?_
                refine st (asI rfl) ?_
                refine rg_end ?_
                refine n_then ?_
                refine wp_ret ?_
                refine r_then (r_blk (r_then (r_then (r_blk (r_then (ret1 (v := (.int .i64 _)) Try.results29 rfl ?_))))))
                exact ⟨vi he.symm, by rw [grS_err (by rw [he]; exact hc7)]; exact hX, hE⟩
              ·
                try simp only [decide_eq_true_eq, decide_eq_false_iff_not, Bool.not_eq_true', Bool.not_eq_false', Bool.and_eq_true, Bool.or_eq_true, Bool.or_eq_false_iff, Bool.cond_true_right, Bool.cond_false_right, Bool.cond_true_left, Bool.cond_false_left, ne_eq, Decidable.not_not, bne_iff_ne, beq_iff_eq, beq_eq_false_iff_ne, Bool.not_true, Bool.not_false] at hc7
                refine wp_skip ?_
                refine n_then ?_
                refine wp_seq ?_
                refine rgD 11 (fun w_ => Ext w68 w_) (fun i => false) mixed (by kernel_rfl) ?_
                intro w74 ho75 hs76
                refine ⟨ho75, ?_⟩
                have hx77 := ho75
                refine tn rfl (fun _ hG => y_fld fld45_0 rfl) ?_
                refine tn rfl (fun _ hG => y_lb (hb15.ext hG) na3 rfl rfl) ?_
                refine tn rfl (fun _ hG => mvP rfl) ?_
                refine tn rfl (fun _ hG => y_nil rfl) ?_
                refine tn rfl (fun _ hG => y_fld fld67_0 rfl) ?_
                refine tn rfl (fun _ hG => y_lb (hb.ext hG) na23 rfl rfl) ?_
                refine tn rfl (fun _ hG => y_fld fld45_0 rfl) ?_
                refine tn rfl (fun _ hG => y_lb (hb15.ext hG) na3 rfl rfl) ?_
                refine tn rfl (fun _ hG => y_ix (hh.ext hG).sl sl23 rfl (hlh.symm) rfl (by omega) (by omega)) ?_
                refine tn rfl (fun _ hG => y_le (hh.ext hG).sl na3 rfl (by omega) (by omega) rfl) ?_
                refine tn rfl (fun _ hG => y_lss rfl rfl) ?_
                refine t_end ?_
                have hz78 := hx77.size
                replace hX := hX.ext hx77
                replace hb := hb.ext hx77
                replace hh := hh.ext hx77
                replace hp := hp.ext hx77
                replace hr := hr.ext hx77
                replace hc_ := hc_.ext hx77
                replace hf := hf.ext hx77
                replace hL := hL.ext hx77
                replace hE := hE.step hx77 (.inl (Nat.le_refl _))
                replace hA := hA.ext hx77
                replace hV := hV.ext hx77
                replace hN := hN.ext hx77
                replace hlp2 := hlp2.step hx77 (.inl (Nat.le_refl _))
                replace hb15 := hb15.ext hx77
                refine st (y_ixR Try.underlying78 sz4 rfl rfl rfl (by omega) (by omega)) ?_
                refine sd0 (d_se (j := 0) (e' := decide (el (S.rs.map Rs.ho) (el l (k : Int)).rs < 0)) hN sz4 rfl rfl rfl (by omega) (by omega) (Nat.le_of_ble_eq_true rfl) rfl ?_)
                intro w79 hs81 ho80 hN'
                clear hN; have hN := hN'; clear hN'
                have hz82 := ho80.size
                replace hX := hX.out ho80 (by first | exact hsp.bh | exact hsp.bp | exact hsp.br | exact hsp.bc | exact sepO hsp.hp | exact sepO hsp.hr | exact sepO hsp.hc | exact sepO hsp.pr | exact sepO hsp.pc | exact sepO hsp.rc | exact sepO hsp.hp.symm | exact sepO hsp.hr.symm | exact sepO hsp.hc.symm | exact sepO hsp.pr.symm | exact sepO hsp.pc.symm | exact sepO hsp.rc.symm | exact hsp.sh | exact hsp.sp | exact hsp.sr | exact hsp.sc | omega | (simp only [blk_some, hi1_some] at *; omega))
                replace hb := hb.out ho80 (by first | exact hsp.bh | exact hsp.bp | exact hsp.br | exact hsp.bc | exact sepO hsp.hp | exact sepO hsp.hr | exact sepO hsp.hc | exact sepO hsp.pr | exact sepO hsp.pc | exact sepO hsp.rc | exact sepO hsp.hp.symm | exact sepO hsp.hr.symm | exact sepO hsp.hc.symm | exact sepO hsp.pr.symm | exact sepO hsp.pc.symm | exact sepO hsp.rc.symm | exact hsp.sh | exact hsp.sp | exact hsp.sr | exact hsp.sc | omega | (simp only [blk_some, hi1_some] at *; omega))
                replace hh := hh.out ho80 (by first | exact hsp.bh | exact hsp.bp | exact hsp.br | exact hsp.bc | exact sepO hsp.hp | exact sepO hsp.hr | exact sepO hsp.hc | exact sepO hsp.pr | exact sepO hsp.pc | exact sepO hsp.rc | exact sepO hsp.hp.symm | exact sepO hsp.hr.symm | exact sepO hsp.hc.symm | exact sepO hsp.pr.symm | exact sepO hsp.pc.symm | exact sepO hsp.rc.symm | exact hsp.sh | exact hsp.sp | exact hsp.sr | exact hsp.sc | omega | (simp only [blk_some, hi1_some] at *; omega))
                replace hp := hp.out ho80 (by first | exact hsp.bh | exact hsp.bp | exact hsp.br | exact hsp.bc | exact sepO hsp.hp | exact sepO hsp.hr | exact sepO hsp.hc | exact sepO hsp.pr | exact sepO hsp.pc | exact sepO hsp.rc | exact sepO hsp.hp.symm | exact sepO hsp.hr.symm | exact sepO hsp.hc.symm | exact sepO hsp.pr.symm | exact sepO hsp.pc.symm | exact sepO hsp.rc.symm | exact hsp.sh | exact hsp.sp | exact hsp.sr | exact hsp.sc | omega | (simp only [blk_some, hi1_some] at *; omega))
                replace hr := hr.out ho80 (by first | exact hsp.bh | exact hsp.bp | exact hsp.br | exact hsp.bc | exact sepO hsp.hp | exact sepO hsp.hr | exact sepO hsp.hc | exact sepO hsp.pr | exact sepO hsp.pc | exact sepO hsp.rc | exact sepO hsp.hp.symm | exact sepO hsp.hr.symm | exact sepO hsp.hc.symm | exact sepO hsp.pr.symm | exact sepO hsp.pc.symm | exact sepO hsp.rc.symm | exact hsp.sh | exact hsp.sp | exact hsp.sr | exact hsp.sc | omega | (simp only [blk_some, hi1_some] at *; omega))
                replace hc_ := hc_.out ho80 (by first | exact hsp.bh | exact hsp.bp | exact hsp.br | exact hsp.bc | exact sepO hsp.hp | exact sepO hsp.hr | exact sepO hsp.hc | exact sepO hsp.pr | exact sepO hsp.pc | exact sepO hsp.rc | exact sepO hsp.hp.symm | exact sepO hsp.hr.symm | exact sepO hsp.hc.symm | exact sepO hsp.pr.symm | exact sepO hsp.pc.symm | exact sepO hsp.rc.symm | exact hsp.sh | exact hsp.sp | exact hsp.sr | exact hsp.sc | omega | (simp only [blk_some, hi1_some] at *; omega))
                replace hf := hf.out ho80 (by first | exact hsp.bh | exact hsp.bp | exact hsp.br | exact hsp.bc | exact sepO hsp.hp | exact sepO hsp.hr | exact sepO hsp.hc | exact sepO hsp.pr | exact sepO hsp.pc | exact sepO hsp.rc | exact sepO hsp.hp.symm | exact sepO hsp.hr.symm | exact sepO hsp.hc.symm | exact sepO hsp.pr.symm | exact sepO hsp.pc.symm | exact sepO hsp.rc.symm | exact hsp.sh | exact hsp.sp | exact hsp.sr | exact hsp.sc | omega | (simp only [blk_some, hi1_some] at *; omega))
                replace hL := hL.out ho80 (by first | exact hsp.bh | exact hsp.bp | exact hsp.br | exact hsp.bc | exact sepO hsp.hp | exact sepO hsp.hr | exact sepO hsp.hc | exact sepO hsp.pr | exact sepO hsp.pc | exact sepO hsp.rc | exact sepO hsp.hp.symm | exact sepO hsp.hr.symm | exact sepO hsp.hc.symm | exact sepO hsp.pr.symm | exact sepO hsp.pc.symm | exact sepO hsp.rc.symm | exact hsp.sh | exact hsp.sp | exact hsp.sr | exact hsp.sc | omega | (simp only [blk_some, hi1_some] at *; omega))
                replace hE := hE.step ho80 (by first | exact hsp.bh | exact hsp.bp | exact hsp.br | exact hsp.bc | exact sepO hsp.hp | exact sepO hsp.hr | exact sepO hsp.hc | exact sepO hsp.pr | exact sepO hsp.pc | exact sepO hsp.rc | exact sepO hsp.hp.symm | exact sepO hsp.hr.symm | exact sepO hsp.hc.symm | exact sepO hsp.pr.symm | exact sepO hsp.pc.symm | exact sepO hsp.rc.symm | exact hsp.sh | exact hsp.sp | exact hsp.sr | exact hsp.sc | omega | (simp only [blk_some, hi1_some] at *; omega))
                replace hA := hA.out ho80 (by first | exact hsp.bh | exact hsp.bp | exact hsp.br | exact hsp.bc | exact sepO hsp.hp | exact sepO hsp.hr | exact sepO hsp.hc | exact sepO hsp.pr | exact sepO hsp.pc | exact sepO hsp.rc | exact sepO hsp.hp.symm | exact sepO hsp.hr.symm | exact sepO hsp.hc.symm | exact sepO hsp.pr.symm | exact sepO hsp.pc.symm | exact sepO hsp.rc.symm | exact hsp.sh | exact hsp.sp | exact hsp.sr | exact hsp.sc | omega | (simp only [blk_some, hi1_some] at *; omega))
                replace hV := hV.out ho80 (by first | exact hsp.bh | exact hsp.bp | exact hsp.br | exact hsp.bc | exact sepO hsp.hp | exact sepO hsp.hr | exact sepO hsp.hc | exact sepO hsp.pr | exact sepO hsp.pc | exact sepO hsp.rc | exact sepO hsp.hp.symm | exact sepO hsp.hr.symm | exact sepO hsp.hc.symm | exact sepO hsp.pr.symm | exact sepO hsp.pc.symm | exact sepO hsp.rc.symm | exact hsp.sh | exact hsp.sp | exact hsp.sr | exact hsp.sc | omega | (simp only [blk_some, hi1_some] at *; omega))
                replace hlp2 := hlp2.step ho80 (by first | exact hsp.bh | exact hsp.bp | exact hsp.br | exact hsp.bc | exact sepO hsp.hp | exact sepO hsp.hr | exact sepO hsp.hc | exact sepO hsp.pr | exact sepO hsp.pc | exact sepO hsp.rc | exact sepO hsp.hp.symm | exact sepO hsp.hr.symm | exact sepO hsp.hc.symm | exact sepO hsp.pr.symm | exact sepO hsp.pc.symm | exact sepO hsp.rc.symm | exact hsp.sh | exact hsp.sp | exact hsp.sr | exact hsp.sc | omega | (simp only [blk_some, hi1_some] at *; omega))
                replace hb15 := hb15.out ho80 (by first | exact hsp.bh | exact hsp.bp | exact hsp.br | exact hsp.bc | exact sepO hsp.hp | exact sepO hsp.hr | exact sepO hsp.hc | exact sepO hsp.pr | exact sepO hsp.pc | exact sepO hsp.rc | exact sepO hsp.hp.symm | exact sepO hsp.hr.symm | exact sepO hsp.hc.symm | exact sepO hsp.pr.symm | exact sepO hsp.pc.symm | exact sepO hsp.rc.symm | exact hsp.sh | exact hsp.sp | exact hsp.sr | exact hsp.sc | omega | (simp only [blk_some, hi1_some] at *; omega))
                have hRn1 : Rep (N_.set (el l (k : Int)).rs.toNat (decide (el (S.rs.map Rs.ho) (el l (k : Int)).rs < 0))) (nw S (l.take (k + 1))) := by rw [nw_step hc6, ← dec_ho e_ho hho.1]; exact hRn.set hkl.1 (by omega)
                refine rg_end ?_
                refine n_then ?_
                refine wp_seq ?_
                refine rgD 10 (fun w_ => Ext w79 w_) (fun i => false) mixed (by kernel_rfl) ?_
                intro w83 ho84 hs85
                refine ⟨ho84, ?_⟩
                have hx86 := ho84
                refine tn rfl (fun _ hG => y_fld fld45_0 rfl) ?_
                refine tn rfl (fun _ hG => y_lb (hb15.ext hG) na3 rfl rfl) ?_
                refine tn rfl (fun _ hG => mvP rfl) ?_
                refine tn rfl (fun _ hG => y_nil rfl) ?_
                refine tn rfl (fun _ hG => y_fld fld67_1 rfl) ?_
                refine tn rfl (fun _ hG => y_lb (hb.ext hG) na23 rfl rfl) ?_
                refine tn rfl (fun _ hG => y_fld fld45_0 rfl) ?_
                refine tn rfl (fun _ hG => y_lb (hb15.ext hG) na3 rfl rfl) ?_
                refine tn rfl (fun _ hG => y_ix (hp.ext hG).sl sl23 rfl (hlp.symm) rfl (by omega) (by omega)) ?_
                refine tn rfl (fun _ hG => y_le (hp.ext hG).sl na3 rfl (by omega) (by omega) rfl) ?_
                refine t_end ?_
                have hz87 := hx86.size
                replace hX := hX.ext hx86
                replace hb := hb.ext hx86
                replace hh := hh.ext hx86
                replace hp := hp.ext hx86
                replace hr := hr.ext hx86
                replace hc_ := hc_.ext hx86
                replace hf := hf.ext hx86
                replace hL := hL.ext hx86
                replace hE := hE.step hx86 (.inl (Nat.le_refl _))
                replace hA := hA.ext hx86
                replace hV := hV.ext hx86
                replace hN := hN.ext hx86
                replace hlp2 := hlp2.step hx86 (.inl (Nat.le_refl _))
                replace hb15 := hb15.ext hx86
                refine st (y_ixR Try.underlying79 sz3 rfl rfl rfl (by omega) (by omega)) ?_
                refine sd0 (d_se (j := 0) (e' := el (S.rs.map Rs.po) (el l (k : Int)).rs) hV sz3 rfl rfl rfl (by omega) (by omega) (Nat.le_of_ble_eq_true rfl) rfl ?_)
                intro w88 hs90 ho89 hV'
                clear hV; have hV := hV'; clear hV'
                have hz91 := ho89.size
                replace hX := hX.out ho89 (by first | exact hsp.bh | exact hsp.bp | exact hsp.br | exact hsp.bc | exact sepO hsp.hp | exact sepO hsp.hr | exact sepO hsp.hc | exact sepO hsp.pr | exact sepO hsp.pc | exact sepO hsp.rc | exact sepO hsp.hp.symm | exact sepO hsp.hr.symm | exact sepO hsp.hc.symm | exact sepO hsp.pr.symm | exact sepO hsp.pc.symm | exact sepO hsp.rc.symm | exact hsp.sh | exact hsp.sp | exact hsp.sr | exact hsp.sc | omega | (simp only [blk_some, hi1_some] at *; omega))
                replace hb := hb.out ho89 (by first | exact hsp.bh | exact hsp.bp | exact hsp.br | exact hsp.bc | exact sepO hsp.hp | exact sepO hsp.hr | exact sepO hsp.hc | exact sepO hsp.pr | exact sepO hsp.pc | exact sepO hsp.rc | exact sepO hsp.hp.symm | exact sepO hsp.hr.symm | exact sepO hsp.hc.symm | exact sepO hsp.pr.symm | exact sepO hsp.pc.symm | exact sepO hsp.rc.symm | exact hsp.sh | exact hsp.sp | exact hsp.sr | exact hsp.sc | omega | (simp only [blk_some, hi1_some] at *; omega))
                replace hh := hh.out ho89 (by first | exact hsp.bh | exact hsp.bp | exact hsp.br | exact hsp.bc | exact sepO hsp.hp | exact sepO hsp.hr | exact sepO hsp.hc | exact sepO hsp.pr | exact sepO hsp.pc | exact sepO hsp.rc | exact sepO hsp.hp.symm | exact sepO hsp.hr.symm | exact sepO hsp.hc.symm | exact sepO hsp.pr.symm | exact sepO hsp.pc.symm | exact sepO hsp.rc.symm | exact hsp.sh | exact hsp.sp | exact hsp.sr | exact hsp.sc | omega | (simp only [blk_some, hi1_some] at *; omega))
                replace hp := hp.out ho89 (by first | exact hsp.bh | exact hsp.bp | exact hsp.br | exact hsp.bc | exact sepO hsp.hp | exact sepO hsp.hr | exact sepO hsp.hc | exact sepO hsp.pr | exact sepO hsp.pc | exact sepO hsp.rc | exact sepO hsp.hp.symm | exact sepO hsp.hr.symm | exact sepO hsp.hc.symm | exact sepO hsp.pr.symm | exact sepO hsp.pc.symm | exact sepO hsp.rc.symm | exact hsp.sh | exact hsp.sp | exact hsp.sr | exact hsp.sc | omega | (simp only [blk_some, hi1_some] at *; omega))
                replace hr := hr.out ho89 (by first | exact hsp.bh | exact hsp.bp | exact hsp.br | exact hsp.bc | exact sepO hsp.hp | exact sepO hsp.hr | exact sepO hsp.hc | exact sepO hsp.pr | exact sepO hsp.pc | exact sepO hsp.rc | exact sepO hsp.hp.symm | exact sepO hsp.hr.symm | exact sepO hsp.hc.symm | exact sepO hsp.pr.symm | exact sepO hsp.pc.symm | exact sepO hsp.rc.symm | exact hsp.sh | exact hsp.sp | exact hsp.sr | exact hsp.sc | omega | (simp only [blk_some, hi1_some] at *; omega))
                replace hc_ := hc_.out ho89 (by first | exact hsp.bh | exact hsp.bp | exact hsp.br | exact hsp.bc | exact sepO hsp.hp | exact sepO hsp.hr | exact sepO hsp.hc | exact sepO hsp.pr | exact sepO hsp.pc | exact sepO hsp.rc | exact sepO hsp.hp.symm | exact sepO hsp.hr.symm | exact sepO hsp.hc.symm | exact sepO hsp.pr.symm | exact sepO hsp.pc.symm | exact sepO hsp.rc.symm | exact hsp.sh | exact hsp.sp | exact hsp.sr | exact hsp.sc | omega | (simp only [blk_some, hi1_some] at *; omega))
                replace hf := hf.out ho89 (by first | exact hsp.bh | exact hsp.bp | exact hsp.br | exact hsp.bc | exact sepO hsp.hp | exact sepO hsp.hr | exact sepO hsp.hc | exact sepO hsp.pr | exact sepO hsp.pc | exact sepO hsp.rc | exact sepO hsp.hp.symm | exact sepO hsp.hr.symm | exact sepO hsp.hc.symm | exact sepO hsp.pr.symm | exact sepO hsp.pc.symm | exact sepO hsp.rc.symm | exact hsp.sh | exact hsp.sp | exact hsp.sr | exact hsp.sc | omega | (simp only [blk_some, hi1_some] at *; omega))
                replace hL := hL.out ho89 (by first | exact hsp.bh | exact hsp.bp | exact hsp.br | exact hsp.bc | exact sepO hsp.hp | exact sepO hsp.hr | exact sepO hsp.hc | exact sepO hsp.pr | exact sepO hsp.pc | exact sepO hsp.rc | exact sepO hsp.hp.symm | exact sepO hsp.hr.symm | exact sepO hsp.hc.symm | exact sepO hsp.pr.symm | exact sepO hsp.pc.symm | exact sepO hsp.rc.symm | exact hsp.sh | exact hsp.sp | exact hsp.sr | exact hsp.sc | omega | (simp only [blk_some, hi1_some] at *; omega))
                replace hE := hE.step ho89 (by first | exact hsp.bh | exact hsp.bp | exact hsp.br | exact hsp.bc | exact sepO hsp.hp | exact sepO hsp.hr | exact sepO hsp.hc | exact sepO hsp.pr | exact sepO hsp.pc | exact sepO hsp.rc | exact sepO hsp.hp.symm | exact sepO hsp.hr.symm | exact sepO hsp.hc.symm | exact sepO hsp.pr.symm | exact sepO hsp.pc.symm | exact sepO hsp.rc.symm | exact hsp.sh | exact hsp.sp | exact hsp.sr | exact hsp.sc | omega | (simp only [blk_some, hi1_some] at *; omega))
                replace hA := hA.out ho89 (by first | exact hsp.bh | exact hsp.bp | exact hsp.br | exact hsp.bc | exact sepO hsp.hp | exact sepO hsp.hr | exact sepO hsp.hc | exact sepO hsp.pr | exact sepO hsp.pc | exact sepO hsp.rc | exact sepO hsp.hp.symm | exact sepO hsp.hr.symm | exact sepO hsp.hc.symm | exact sepO hsp.pr.symm | exact sepO hsp.pc.symm | exact sepO hsp.rc.symm | exact hsp.sh | exact hsp.sp | exact hsp.sr | exact hsp.sc | omega | (simp only [blk_some, hi1_some] at *; omega))
                replace hN := hN.out ho89 (by first | exact hsp.bh | exact hsp.bp | exact hsp.br | exact hsp.bc | exact sepO hsp.hp | exact sepO hsp.hr | exact sepO hsp.hc | exact sepO hsp.pr | exact sepO hsp.pc | exact sepO hsp.rc | exact sepO hsp.hp.symm | exact sepO hsp.hr.symm | exact sepO hsp.hc.symm | exact sepO hsp.pr.symm | exact sepO hsp.pc.symm | exact sepO hsp.rc.symm | exact hsp.sh | exact hsp.sp | exact hsp.sr | exact hsp.sc | omega | (simp only [blk_some, hi1_some] at *; omega))
                replace hlp2 := hlp2.step ho89 (by first | exact hsp.bh | exact hsp.bp | exact hsp.br | exact hsp.bc | exact sepO hsp.hp | exact sepO hsp.hr | exact sepO hsp.hc | exact sepO hsp.pr | exact sepO hsp.pc | exact sepO hsp.rc | exact sepO hsp.hp.symm | exact sepO hsp.hr.symm | exact sepO hsp.hc.symm | exact sepO hsp.pr.symm | exact sepO hsp.pc.symm | exact sepO hsp.rc.symm | exact hsp.sh | exact hsp.sp | exact hsp.sr | exact hsp.sc | omega | (simp only [blk_some, hi1_some] at *; omega))
                replace hb15 := hb15.out ho89 (by first | exact hsp.bh | exact hsp.bp | exact hsp.br | exact hsp.bc | exact sepO hsp.hp | exact sepO hsp.hr | exact sepO hsp.hc | exact sepO hsp.pr | exact sepO hsp.pc | exact sepO hsp.rc | exact sepO hsp.hp.symm | exact sepO hsp.hr.symm | exact sepO hsp.hc.symm | exact sepO hsp.pr.symm | exact sepO hsp.pc.symm | exact sepO hsp.rc.symm | exact hsp.sh | exact hsp.sp | exact hsp.sr | exact hsp.sc | omega | (simp only [blk_some, hi1_some] at *; omega))
                have hV1 := hRv.set (v := el (S.rs.map Rs.po) (el l (k : Int)).rs) hkl.1 (by omega)
                refine rg_end ?_
                refine n_then ?_
                refine wp_seq ?_
                refine rg ?_
                refine st (y_fld fld45_1 rfl) ?_
                refine st (y_lb hb15 na3 rfl rfl) ?_
                refine st (y_geq rfl rfl) ?_
                refine rg_end ?_
                refine n_then ?_
                refine cnd rfl (fun hc8 => ?_) (fun hc8 => ?_)
                ·
                  try simp only [decide_eq_true_eq, decide_eq_false_iff_not, Bool.not_eq_true', Bool.not_eq_false', Bool.and_eq_true, Bool.or_eq_true, Bool.or_eq_false_iff, Bool.cond_true_right, Bool.cond_false_right, Bool.cond_true_left, Bool.cond_false_left, ne_eq, Decidable.not_not, bne_iff_ne, beq_iff_eq, beq_eq_false_iff_ne, Bool.not_true, Bool.not_false] at hc8
                  have hV2 := hV1.set (v := (el l (k : Int)).po) hkl.1 (by simp; omega)
                  rw [upd_upd] at hV2
                  have hAV2 := hAV.add (k := el l (k : Int)) (p := (el l (k : Int)).po) (by rw [if_neg (by omega)])
                  rw [← take_succ_el hc6] at hAV2
                  refine rg ?_
                  refine st (y_fld fld45_0 rfl) ?_
                  refine st (y_lb hb15 na3 rfl rfl) ?_
                  refine st (y_fld fld45_1 rfl) ?_
                  refine st (y_lb hb15 na3 rfl rfl) ?_
                  refine st (y_ixR Try.underlying79 sz3 rfl rfl rfl (by omega) (by omega)) ?_
                  refine sd0 (d_se (j := 0) (e' := (el l (k : Int)).po) hV sz3 rfl rfl rfl (by omega) (by simp; omega) (Nat.le_of_ble_eq_true rfl) rfl ?_)
                  intro w92 hs94 ho93 hV'
                  clear hV; have hV := hV'; clear hV'
                  have hz95 := ho93.size
                  replace hX := hX.out ho93 (by first | exact hsp.bh | exact hsp.bp | exact hsp.br | exact hsp.bc | exact sepO hsp.hp | exact sepO hsp.hr | exact sepO hsp.hc | exact sepO hsp.pr | exact sepO hsp.pc | exact sepO hsp.rc | exact sepO hsp.hp.symm | exact sepO hsp.hr.symm | exact sepO hsp.hc.symm | exact sepO hsp.pr.symm | exact sepO hsp.pc.symm | exact sepO hsp.rc.symm | exact hsp.sh | exact hsp.sp | exact hsp.sr | exact hsp.sc | omega | (simp only [blk_some, hi1_some] at *; omega))
                  replace hb := hb.out ho93 (by first | exact hsp.bh | exact hsp.bp | exact hsp.br | exact hsp.bc | exact sepO hsp.hp | exact sepO hsp.hr | exact sepO hsp.hc | exact sepO hsp.pr | exact sepO hsp.pc | exact sepO hsp.rc | exact sepO hsp.hp.symm | exact sepO hsp.hr.symm | exact sepO hsp.hc.symm | exact sepO hsp.pr.symm | exact sepO hsp.pc.symm | exact sepO hsp.rc.symm | exact hsp.sh | exact hsp.sp | exact hsp.sr | exact hsp.sc | omega | (simp only [blk_some, hi1_some] at *; omega))
                  replace hh := hh.out ho93 (by first | exact hsp.bh | exact hsp.bp | exact hsp.br | exact hsp.bc | exact sepO hsp.hp | exact sepO hsp.hr | exact sepO hsp.hc | exact sepO hsp.pr | exact sepO hsp.pc | exact sepO hsp.rc | exact sepO hsp.hp.symm | exact sepO hsp.hr.symm | exact sepO hsp.hc.symm | exact sepO hsp.pr.symm | exact sepO hsp.pc.symm | exact sepO hsp.rc.symm | exact hsp.sh | exact hsp.sp | exact hsp.sr | exact hsp.sc | omega | (simp only [blk_some, hi1_some] at *; omega))
                  replace hp := hp.out ho93 (by first | exact hsp.bh | exact hsp.bp | exact hsp.br | exact hsp.bc | exact sepO hsp.hp | exact sepO hsp.hr | exact sepO hsp.hc | exact sepO hsp.pr | exact sepO hsp.pc | exact sepO hsp.rc | exact sepO hsp.hp.symm | exact sepO hsp.hr.symm | exact sepO hsp.hc.symm | exact sepO hsp.pr.symm | exact sepO hsp.pc.symm | exact sepO hsp.rc.symm | exact hsp.sh | exact hsp.sp | exact hsp.sr | exact hsp.sc | omega | (simp only [blk_some, hi1_some] at *; omega))
                  replace hr := hr.out ho93 (by first | exact hsp.bh | exact hsp.bp | exact hsp.br | exact hsp.bc | exact sepO hsp.hp | exact sepO hsp.hr | exact sepO hsp.hc | exact sepO hsp.pr | exact sepO hsp.pc | exact sepO hsp.rc | exact sepO hsp.hp.symm | exact sepO hsp.hr.symm | exact sepO hsp.hc.symm | exact sepO hsp.pr.symm | exact sepO hsp.pc.symm | exact sepO hsp.rc.symm | exact hsp.sh | exact hsp.sp | exact hsp.sr | exact hsp.sc | omega | (simp only [blk_some, hi1_some] at *; omega))
                  replace hc_ := hc_.out ho93 (by first | exact hsp.bh | exact hsp.bp | exact hsp.br | exact hsp.bc | exact sepO hsp.hp | exact sepO hsp.hr | exact sepO hsp.hc | exact sepO hsp.pr | exact sepO hsp.pc | exact sepO hsp.rc | exact sepO hsp.hp.symm | exact sepO hsp.hr.symm | exact sepO hsp.hc.symm | exact sepO hsp.pr.symm | exact sepO hsp.pc.symm | exact sepO hsp.rc.symm | exact hsp.sh | exact hsp.sp | exact hsp.sr | exact hsp.sc | omega | (simp only [blk_some, hi1_some] at *; omega))
                  replace hf := hf.out ho93 (by first | exact hsp.bh | exact hsp.bp | exact hsp.br | exact hsp.bc | exact sepO hsp.hp | exact sepO hsp.hr | exact sepO hsp.hc | exact sepO hsp.pr | exact sepO hsp.pc | exact sepO hsp.rc | exact sepO hsp.hp.symm | exact sepO hsp.hr.symm | exact sepO hsp.hc.symm | exact sepO hsp.pr.symm | exact sepO hsp.pc.symm | exact sepO hsp.rc.symm | exact hsp.sh | exact hsp.sp | exact hsp.sr | exact hsp.sc | omega | (simp only [blk_some, hi1_some] at *; omega))
                  replace hL := hL.out ho93 (by first | exact hsp.bh | exact hsp.bp | exact hsp.br | exact hsp.bc | exact sepO hsp.hp | exact sepO hsp.hr | exact sepO hsp.hc | exact sepO hsp.pr | exact sepO hsp.pc | exact sepO hsp.rc | exact sepO hsp.hp.symm | exact sepO hsp.hr.symm | exact sepO hsp.hc.symm | exact sepO hsp.pr.symm | exact sepO hsp.pc.symm | exact sepO hsp.rc.symm | exact hsp.sh | exact hsp.sp | exact hsp.sr | exact hsp.sc | omega | (simp only [blk_some, hi1_some] at *; omega))
                  replace hE := hE.step ho93 (by first | exact hsp.bh | exact hsp.bp | exact hsp.br | exact hsp.bc | exact sepO hsp.hp | exact sepO hsp.hr | exact sepO hsp.hc | exact sepO hsp.pr | exact sepO hsp.pc | exact sepO hsp.rc | exact sepO hsp.hp.symm | exact sepO hsp.hr.symm | exact sepO hsp.hc.symm | exact sepO hsp.pr.symm | exact sepO hsp.pc.symm | exact sepO hsp.rc.symm | exact hsp.sh | exact hsp.sp | exact hsp.sr | exact hsp.sc | omega | (simp only [blk_some, hi1_some] at *; omega))
                  replace hA := hA.out ho93 (by first | exact hsp.bh | exact hsp.bp | exact hsp.br | exact hsp.bc | exact sepO hsp.hp | exact sepO hsp.hr | exact sepO hsp.hc | exact sepO hsp.pr | exact sepO hsp.pc | exact sepO hsp.rc | exact sepO hsp.hp.symm | exact sepO hsp.hr.symm | exact sepO hsp.hc.symm | exact sepO hsp.pr.symm | exact sepO hsp.pc.symm | exact sepO hsp.rc.symm | exact hsp.sh | exact hsp.sp | exact hsp.sr | exact hsp.sc | omega | (simp only [blk_some, hi1_some] at *; omega))
                  replace hN := hN.out ho93 (by first | exact hsp.bh | exact hsp.bp | exact hsp.br | exact hsp.bc | exact sepO hsp.hp | exact sepO hsp.hr | exact sepO hsp.hc | exact sepO hsp.pr | exact sepO hsp.pc | exact sepO hsp.rc | exact sepO hsp.hp.symm | exact sepO hsp.hr.symm | exact sepO hsp.hc.symm | exact sepO hsp.pr.symm | exact sepO hsp.pc.symm | exact sepO hsp.rc.symm | exact hsp.sh | exact hsp.sp | exact hsp.sr | exact hsp.sc | omega | (simp only [blk_some, hi1_some] at *; omega))
                  replace hlp2 := hlp2.step ho93 (by first | exact hsp.bh | exact hsp.bp | exact hsp.br | exact hsp.bc | exact sepO hsp.hp | exact sepO hsp.hr | exact sepO hsp.hc | exact sepO hsp.pr | exact sepO hsp.pc | exact sepO hsp.rc | exact sepO hsp.hp.symm | exact sepO hsp.hr.symm | exact sepO hsp.hc.symm | exact sepO hsp.pr.symm | exact sepO hsp.pc.symm | exact sepO hsp.rc.symm | exact hsp.sh | exact hsp.sp | exact hsp.sr | exact hsp.sc | omega | (simp only [blk_some, hi1_some] at *; omega))
                  replace hb15 := hb15.out ho93 (by first | exact hsp.bh | exact hsp.bp | exact hsp.br | exact hsp.bc | exact sepO hsp.hp | exact sepO hsp.hr | exact sepO hsp.hc | exact sepO hsp.pr | exact sepO hsp.pc | exact sepO hsp.rc | exact sepO hsp.hp.symm | exact sepO hsp.hr.symm | exact sepO hsp.hc.symm | exact sepO hsp.pr.symm | exact sepO hsp.pc.symm | exact sepO hsp.rc.symm | exact hsp.sh | exact hsp.sp | exact hsp.sr | exact hsp.sc | omega | (simp only [blk_some, hi1_some] at *; omega))
                  refine rg_end ?_
                  refine n_blk ?_
                  refine n_then ?_
                  refine rg ?_
                  refine st (y_add rfl rfl (by omega)) ?_
                  refine st (mvI rfl) ?_
                  refine rg_end ?_
                  exact n_then ⟨(k + 1, _, _, _), _, rfl, same_lk rfl (same_h0), ⟨rfl, trivial⟩, ⟨hlp2, by omega, by simp [hVl], by simp [hNl], hV2, hAV2, hRn1, lks_step hc6 hls hc7, hV, hN⟩, by first | omega | (dsimp only; omega)⟩
                ·
                  try simp only [decide_eq_true_eq, decide_eq_false_iff_not, Bool.not_eq_true', Bool.not_eq_false', Bool.and_eq_true, Bool.or_eq_true, Bool.or_eq_false_iff, Bool.cond_true_right, Bool.cond_false_right, Bool.cond_true_left, Bool.cond_false_left, ne_eq, Decidable.not_not, bne_iff_ne, beq_iff_eq, beq_eq_false_iff_ne, Bool.not_true, Bool.not_false] at hc8
                  have hV2 := hV1
                  have hAV2 := hAV.add (k := el l (k : Int)) (p := el (S.rs.map Rs.po) (el l (k : Int)).rs) (by rw [if_pos (by omega)]; exact e_po)
                  rw [← take_succ_el hc6] at hAV2
                  refine wp_skip ?_
                  refine n_blk ?_
                  refine n_then ?_
                  refine rg ?_
                  refine st (y_add rfl rfl (by omega)) ?_
                  refine st (mvI rfl) ?_
                  refine rg_end ?_
                  exact n_then ⟨(k + 1, _, _, _), _, rfl, same_lk rfl (same_h0), ⟨rfl, trivial⟩, ⟨hlp2, by omega, by simp [hVl], by simp [hNl], hV2, hAV2, hRn1, lks_step hc6 hls hc7, hV, hN⟩, by first | omega | (dsimp only; omega)⟩
            ·
              try simp only [decide_eq_true_eq, decide_eq_false_iff_not, Bool.not_eq_true', Bool.not_eq_false', Bool.and_eq_true, Bool.or_eq_true, Bool.or_eq_false_iff, Bool.cond_true_right, Bool.cond_false_right, Bool.cond_true_left, Bool.cond_false_left, ne_eq, Decidable.not_not, bne_iff_ne, beq_iff_eq, beq_eq_false_iff_ne, Bool.not_true, Bool.not_false] at hc6
              have hlz := lks_end hc6 hls
              rw [take_end hc6] at hAV hRn
              have hAsk := ask_start hS hlk hlz hAV
              refine wp_exit ?_
              refine e_then (e_then (e_blk (?_)))
              refine n_then ?_
              refine wp_seq ?_
              refine wp_seq ?_
              refine rg ?_
              refine st (mvP rfl) ?_
              refine st (y_nil rfl) ?_
              refine st (y_fld fld67_4 rfl) ?_
              refine st (y_lb hb na22 rfl rfl) ?_
              refine st (y_len Try.underlying22 rfl) ?_
              refine st (mvI rfl) ?_
              refine rg_end ?_
              refine n_then ?_
              refine wp_block ?_
              refine lp (γ := Nat × List Bool × List Int × (Int → Bool) × (Int → Int) × (Int → Int)) [6, 18, 117, 118, 119, 120, 121, 122, 123, 124, 125, 126, 127, 128, 129, 130, 131, 132, 133, 134, 135, 136, 137, 138, 139, 140, 141, 142, 143, 144, 145, 146, 147, 148, 149, 150, 151, 152, 153, 154, 155, 156, 157, 158, 159, 160, 161, 162, 163, 164, 165, 166, 167, 168, 169, 170, 171, 172, 173, 174] (fun ⟨k, s, V, A, Vf, W⟩ => [(117, .int .i64 (k : Int))]) (fun ⟨k, s, V, A, Vf, W⟩ w_ => Out bA (bV + 1) w57 w_ ∧ (k : Int) ≤ S.fl.length ∧ s.length = 144 ∧ V.length = 144 ∧ Rep s A ∧ Rep V Vf ∧ Go.Wk.Ask S A Vf W ∧ W = wanF (wan S l) (movesOf (nw S l) (S.fl.take k)) ∧ fkGo S (nw S l) S.fl (wan S l) = fkGo S (nw S l) (S.fl.drop k) W ∧ Ow 78 encB 1 w.heap.size (bA + 1) w_ (some ⟨bA, 0, none⟩) 144 s ∧ Ow 79 encI 1 w.heap.size (bV + 1) w_ (some ⟨bV, 0, none⟩) 144 V) (fun ⟨k, s, V, A, Vf, W⟩ => S.fl.length - k) (0, _, _, _, _, wan S l) ⟨rfl, trivial⟩ ⟨Out.refl _ _ _, by simp, hsl, hVl, hRs, hRv, hAsk, by simp [movesOf, wanF], rfl, hA, hV⟩ ?_
              rintro ⟨k, s, V, A, Vf, W⟩ hav_ w96 ⟨ho97, hk, hsl, hVl, hRs, hRv, hAsk, hW, hgo, hA, hV⟩
              have hlp3 := ho97
              have hz98 := ho97.size
              replace hX := hX.out ho97 (by first | exact hsp.bh | exact hsp.bp | exact hsp.br | exact hsp.bc | exact sepO hsp.hp | exact sepO hsp.hr | exact sepO hsp.hc | exact sepO hsp.pr | exact sepO hsp.pc | exact sepO hsp.rc | exact sepO hsp.hp.symm | exact sepO hsp.hr.symm | exact sepO hsp.hc.symm | exact sepO hsp.pr.symm | exact sepO hsp.pc.symm | exact sepO hsp.rc.symm | exact hsp.sh | exact hsp.sp | exact hsp.sr | exact hsp.sc | omega | (simp only [blk_some, hi1_some] at *; omega))
              replace hb := hb.out ho97 (by first | exact hsp.bh | exact hsp.bp | exact hsp.br | exact hsp.bc | exact sepO hsp.hp | exact sepO hsp.hr | exact sepO hsp.hc | exact sepO hsp.pr | exact sepO hsp.pc | exact sepO hsp.rc | exact sepO hsp.hp.symm | exact sepO hsp.hr.symm | exact sepO hsp.hc.symm | exact sepO hsp.pr.symm | exact sepO hsp.pc.symm | exact sepO hsp.rc.symm | exact hsp.sh | exact hsp.sp | exact hsp.sr | exact hsp.sc | omega | (simp only [blk_some, hi1_some] at *; omega))
              replace hh := hh.out ho97 (by first | exact hsp.bh | exact hsp.bp | exact hsp.br | exact hsp.bc | exact sepO hsp.hp | exact sepO hsp.hr | exact sepO hsp.hc | exact sepO hsp.pr | exact sepO hsp.pc | exact sepO hsp.rc | exact sepO hsp.hp.symm | exact sepO hsp.hr.symm | exact sepO hsp.hc.symm | exact sepO hsp.pr.symm | exact sepO hsp.pc.symm | exact sepO hsp.rc.symm | exact hsp.sh | exact hsp.sp | exact hsp.sr | exact hsp.sc | omega | (simp only [blk_some, hi1_some] at *; omega))
              replace hp := hp.out ho97 (by first | exact hsp.bh | exact hsp.bp | exact hsp.br | exact hsp.bc | exact sepO hsp.hp | exact sepO hsp.hr | exact sepO hsp.hc | exact sepO hsp.pr | exact sepO hsp.pc | exact sepO hsp.rc | exact sepO hsp.hp.symm | exact sepO hsp.hr.symm | exact sepO hsp.hc.symm | exact sepO hsp.pr.symm | exact sepO hsp.pc.symm | exact sepO hsp.rc.symm | exact hsp.sh | exact hsp.sp | exact hsp.sr | exact hsp.sc | omega | (simp only [blk_some, hi1_some] at *; omega))
              replace hr := hr.out ho97 (by first | exact hsp.bh | exact hsp.bp | exact hsp.br | exact hsp.bc | exact sepO hsp.hp | exact sepO hsp.hr | exact sepO hsp.hc | exact sepO hsp.pr | exact sepO hsp.pc | exact sepO hsp.rc | exact sepO hsp.hp.symm | exact sepO hsp.hr.symm | exact sepO hsp.hc.symm | exact sepO hsp.pr.symm | exact sepO hsp.pc.symm | exact sepO hsp.rc.symm | exact hsp.sh | exact hsp.sp | exact hsp.sr | exact hsp.sc | omega | (simp only [blk_some, hi1_some] at *; omega))
              replace hc_ := hc_.out ho97 (by first | exact hsp.bh | exact hsp.bp | exact hsp.br | exact hsp.bc | exact sepO hsp.hp | exact sepO hsp.hr | exact sepO hsp.hc | exact sepO hsp.pr | exact sepO hsp.pc | exact sepO hsp.rc | exact sepO hsp.hp.symm | exact sepO hsp.hr.symm | exact sepO hsp.hc.symm | exact sepO hsp.pr.symm | exact sepO hsp.pc.symm | exact sepO hsp.rc.symm | exact hsp.sh | exact hsp.sp | exact hsp.sr | exact hsp.sc | omega | (simp only [blk_some, hi1_some] at *; omega))
              replace hf := hf.out ho97 (by first | exact hsp.bh | exact hsp.bp | exact hsp.br | exact hsp.bc | exact sepO hsp.hp | exact sepO hsp.hr | exact sepO hsp.hc | exact sepO hsp.pr | exact sepO hsp.pc | exact sepO hsp.rc | exact sepO hsp.hp.symm | exact sepO hsp.hr.symm | exact sepO hsp.hc.symm | exact sepO hsp.pr.symm | exact sepO hsp.pc.symm | exact sepO hsp.rc.symm | exact hsp.sh | exact hsp.sp | exact hsp.sr | exact hsp.sc | omega | (simp only [blk_some, hi1_some] at *; omega))
              replace hL := hL.out ho97 (by first | exact hsp.bh | exact hsp.bp | exact hsp.br | exact hsp.bc | exact sepO hsp.hp | exact sepO hsp.hr | exact sepO hsp.hc | exact sepO hsp.pr | exact sepO hsp.pc | exact sepO hsp.rc | exact sepO hsp.hp.symm | exact sepO hsp.hr.symm | exact sepO hsp.hc.symm | exact sepO hsp.pr.symm | exact sepO hsp.pc.symm | exact sepO hsp.rc.symm | exact hsp.sh | exact hsp.sp | exact hsp.sr | exact hsp.sc | omega | (simp only [blk_some, hi1_some] at *; omega))
              replace hE := hE.step ho97 (by first | exact hsp.bh | exact hsp.bp | exact hsp.br | exact hsp.bc | exact sepO hsp.hp | exact sepO hsp.hr | exact sepO hsp.hc | exact sepO hsp.pr | exact sepO hsp.pc | exact sepO hsp.rc | exact sepO hsp.hp.symm | exact sepO hsp.hr.symm | exact sepO hsp.hc.symm | exact sepO hsp.pr.symm | exact sepO hsp.pc.symm | exact sepO hsp.rc.symm | exact hsp.sh | exact hsp.sp | exact hsp.sr | exact hsp.sc | omega | (simp only [blk_some, hi1_some] at *; omega))
              replace hN := hN.out ho97 (by first | exact hsp.bh | exact hsp.bp | exact hsp.br | exact hsp.bc | exact sepO hsp.hp | exact sepO hsp.hr | exact sepO hsp.hc | exact sepO hsp.pr | exact sepO hsp.pc | exact sepO hsp.rc | exact sepO hsp.hp.symm | exact sepO hsp.hr.symm | exact sepO hsp.hc.symm | exact sepO hsp.pr.symm | exact sepO hsp.pc.symm | exact sepO hsp.rc.symm | exact hsp.sh | exact hsp.sp | exact hsp.sr | exact hsp.sc | omega | (simp only [blk_some, hi1_some] at *; omega))
              refine wp_seq ?_
              refine rg ?_
              refine st (y_lss rfl rfl) ?_
              refine rg_end ?_
              refine n_then ?_
              refine wp_seq ?_
              refine cnd rfl (fun hc9 => ?_) (fun hc9 => ?_)
              ·
                try simp only [decide_eq_true_eq, decide_eq_false_iff_not, Bool.not_eq_true', Bool.not_eq_false', Bool.and_eq_true, Bool.or_eq_true, Bool.or_eq_false_iff, Bool.cond_true_right, Bool.cond_false_right, Bool.cond_true_left, Bool.cond_false_left, ne_eq, Decidable.not_not, bne_iff_ne, beq_iff_eq, beq_eq_false_iff_ne, Bool.not_true, Bool.not_false] at hc9
                have hfk := hS.fl.ok _ (el_mem (l := S.fl) (i := (k : Int)) (by omega) hc9)
                have hfl := hS.fl.len
                have hho := hS.ho _ (el_mem (l := S.rs) hfk.2.2.1 hfk.2.2.2.1)
                have e_ho := el_map (l := S.rs) (g := Rs.ho) (i := (el S.fl (k : Int)).pt) hfk.2.2.1 hfk.2.2.2.1
                have e_po := el_map (l := S.rs) (g := Rs.po) (i := (el S.fl (k : Int)).pt) hfk.2.2.1 hfk.2.2.2.1
                have hNp := hRn _ hfk.1 (by omega : (el S.fl (k : Int)).rs < N_.length)
                have hsP := hRs _ hfk.2.2.1 (by omega : (el S.fl (k : Int)).pt < s.length)
                have hVp := hRv _ hfk.2.2.1 (by omega : (el S.fl (k : Int)).pt < V.length)
                refine wp_skip ?_
                refine n_then ?_
                refine wp_seq ?_
                refine wp_block ?_
                refine wp_seq ?_
                refine rg ?_
                refine st (y_ix hf sl22 rfl (rfl) rfl (by omega) (by omega)) ?_
                refine st (y_lw hf agg35 rfl (by omega) (by omega)) ?_
                refine sd (d_allocA zer35 ?_)
                intro b18 w99 hbb18 hs101 ho100 hb18
                have hz102 := ho100.size
                replace hX := hX.ext ho100
                replace hb := hb.ext ho100
                replace hh := hh.ext ho100
                replace hp := hp.ext ho100
                replace hr := hr.ext ho100
                replace hc_ := hc_.ext ho100
                replace hf := hf.ext ho100
                replace hL := hL.ext ho100
                replace hE := hE.step ho100 (.inl (Nat.le_refl _))
                replace hN := hN.ext ho100
                replace hA := hA.ext ho100
                replace hV := hV.ext ho100
                replace hlp3 := hlp3.step ho100 (.inl (Nat.le_refl _))
                refine sd0 (d_stN hb18 rfl rfl sz35 rfl rfl ?_)
                intro w103 hs105 ho104 hb18'
                clear hb18; have hb18 := hb18'; clear hb18'
                have hz106 := ho104.size
                replace hX := hX.out ho104 (by first | exact hsp.bh | exact hsp.bp | exact hsp.br | exact hsp.bc | exact sepO hsp.hp | exact sepO hsp.hr | exact sepO hsp.hc | exact sepO hsp.pr | exact sepO hsp.pc | exact sepO hsp.rc | exact sepO hsp.hp.symm | exact sepO hsp.hr.symm | exact sepO hsp.hc.symm | exact sepO hsp.pr.symm | exact sepO hsp.pc.symm | exact sepO hsp.rc.symm | exact hsp.sh | exact hsp.sp | exact hsp.sr | exact hsp.sc | omega | (simp only [blk_some, hi1_some] at *; omega))
                replace hb := hb.out ho104 (by first | exact hsp.bh | exact hsp.bp | exact hsp.br | exact hsp.bc | exact sepO hsp.hp | exact sepO hsp.hr | exact sepO hsp.hc | exact sepO hsp.pr | exact sepO hsp.pc | exact sepO hsp.rc | exact sepO hsp.hp.symm | exact sepO hsp.hr.symm | exact sepO hsp.hc.symm | exact sepO hsp.pr.symm | exact sepO hsp.pc.symm | exact sepO hsp.rc.symm | exact hsp.sh | exact hsp.sp | exact hsp.sr | exact hsp.sc | omega | (simp only [blk_some, hi1_some] at *; omega))
                replace hh := hh.out ho104 (by first | exact hsp.bh | exact hsp.bp | exact hsp.br | exact hsp.bc | exact sepO hsp.hp | exact sepO hsp.hr | exact sepO hsp.hc | exact sepO hsp.pr | exact sepO hsp.pc | exact sepO hsp.rc | exact sepO hsp.hp.symm | exact sepO hsp.hr.symm | exact sepO hsp.hc.symm | exact sepO hsp.pr.symm | exact sepO hsp.pc.symm | exact sepO hsp.rc.symm | exact hsp.sh | exact hsp.sp | exact hsp.sr | exact hsp.sc | omega | (simp only [blk_some, hi1_some] at *; omega))
                replace hp := hp.out ho104 (by first | exact hsp.bh | exact hsp.bp | exact hsp.br | exact hsp.bc | exact sepO hsp.hp | exact sepO hsp.hr | exact sepO hsp.hc | exact sepO hsp.pr | exact sepO hsp.pc | exact sepO hsp.rc | exact sepO hsp.hp.symm | exact sepO hsp.hr.symm | exact sepO hsp.hc.symm | exact sepO hsp.pr.symm | exact sepO hsp.pc.symm | exact sepO hsp.rc.symm | exact hsp.sh | exact hsp.sp | exact hsp.sr | exact hsp.sc | omega | (simp only [blk_some, hi1_some] at *; omega))
                replace hr := hr.out ho104 (by first | exact hsp.bh | exact hsp.bp | exact hsp.br | exact hsp.bc | exact sepO hsp.hp | exact sepO hsp.hr | exact sepO hsp.hc | exact sepO hsp.pr | exact sepO hsp.pc | exact sepO hsp.rc | exact sepO hsp.hp.symm | exact sepO hsp.hr.symm | exact sepO hsp.hc.symm | exact sepO hsp.pr.symm | exact sepO hsp.pc.symm | exact sepO hsp.rc.symm | exact hsp.sh | exact hsp.sp | exact hsp.sr | exact hsp.sc | omega | (simp only [blk_some, hi1_some] at *; omega))
                replace hc_ := hc_.out ho104 (by first | exact hsp.bh | exact hsp.bp | exact hsp.br | exact hsp.bc | exact sepO hsp.hp | exact sepO hsp.hr | exact sepO hsp.hc | exact sepO hsp.pr | exact sepO hsp.pc | exact sepO hsp.rc | exact sepO hsp.hp.symm | exact sepO hsp.hr.symm | exact sepO hsp.hc.symm | exact sepO hsp.pr.symm | exact sepO hsp.pc.symm | exact sepO hsp.rc.symm | exact hsp.sh | exact hsp.sp | exact hsp.sr | exact hsp.sc | omega | (simp only [blk_some, hi1_some] at *; omega))
                replace hf := hf.out ho104 (by first | exact hsp.bh | exact hsp.bp | exact hsp.br | exact hsp.bc | exact sepO hsp.hp | exact sepO hsp.hr | exact sepO hsp.hc | exact sepO hsp.pr | exact sepO hsp.pc | exact sepO hsp.rc | exact sepO hsp.hp.symm | exact sepO hsp.hr.symm | exact sepO hsp.hc.symm | exact sepO hsp.pr.symm | exact sepO hsp.pc.symm | exact sepO hsp.rc.symm | exact hsp.sh | exact hsp.sp | exact hsp.sr | exact hsp.sc | omega | (simp only [blk_some, hi1_some] at *; omega))
                replace hL := hL.out ho104 (by first | exact hsp.bh | exact hsp.bp | exact hsp.br | exact hsp.bc | exact sepO hsp.hp | exact sepO hsp.hr | exact sepO hsp.hc | exact sepO hsp.pr | exact sepO hsp.pc | exact sepO hsp.rc | exact sepO hsp.hp.symm | exact sepO hsp.hr.symm | exact sepO hsp.hc.symm | exact sepO hsp.pr.symm | exact sepO hsp.pc.symm | exact sepO hsp.rc.symm | exact hsp.sh | exact hsp.sp | exact hsp.sr | exact hsp.sc | omega | (simp only [blk_some, hi1_some] at *; omega))
                replace hE := hE.step ho104 (by first | exact hsp.bh | exact hsp.bp | exact hsp.br | exact hsp.bc | exact sepO hsp.hp | exact sepO hsp.hr | exact sepO hsp.hc | exact sepO hsp.pr | exact sepO hsp.pc | exact sepO hsp.rc | exact sepO hsp.hp.symm | exact sepO hsp.hr.symm | exact sepO hsp.hc.symm | exact sepO hsp.pr.symm | exact sepO hsp.pc.symm | exact sepO hsp.rc.symm | exact hsp.sh | exact hsp.sp | exact hsp.sr | exact hsp.sc | omega | (simp only [blk_some, hi1_some] at *; omega))
                replace hN := hN.out ho104 (by first | exact hsp.bh | exact hsp.bp | exact hsp.br | exact hsp.bc | exact sepO hsp.hp | exact sepO hsp.hr | exact sepO hsp.hc | exact sepO hsp.pr | exact sepO hsp.pc | exact sepO hsp.rc | exact sepO hsp.hp.symm | exact sepO hsp.hr.symm | exact sepO hsp.hc.symm | exact sepO hsp.pr.symm | exact sepO hsp.pc.symm | exact sepO hsp.rc.symm | exact hsp.sh | exact hsp.sp | exact hsp.sr | exact hsp.sc | omega | (simp only [blk_some, hi1_some] at *; omega))
                replace hA := hA.out ho104 (by first | exact hsp.bh | exact hsp.bp | exact hsp.br | exact hsp.bc | exact sepO hsp.hp | exact sepO hsp.hr | exact sepO hsp.hc | exact sepO hsp.pr | exact sepO hsp.pc | exact sepO hsp.rc | exact sepO hsp.hp.symm | exact sepO hsp.hr.symm | exact sepO hsp.hc.symm | exact sepO hsp.pr.symm | exact sepO hsp.pc.symm | exact sepO hsp.rc.symm | exact hsp.sh | exact hsp.sp | exact hsp.sr | exact hsp.sc | omega | (simp only [blk_some, hi1_some] at *; omega))
                replace hV := hV.out ho104 (by first | exact hsp.bh | exact hsp.bp | exact hsp.br | exact hsp.bc | exact sepO hsp.hp | exact sepO hsp.hr | exact sepO hsp.hc | exact sepO hsp.pr | exact sepO hsp.pc | exact sepO hsp.rc | exact sepO hsp.hp.symm | exact sepO hsp.hr.symm | exact sepO hsp.hc.symm | exact sepO hsp.pr.symm | exact sepO hsp.pc.symm | exact sepO hsp.rc.symm | exact hsp.sh | exact hsp.sp | exact hsp.sr | exact hsp.sc | omega | (simp only [blk_some, hi1_some] at *; omega))
                replace hlp3 := hlp3.step ho104 (by first | exact hsp.bh | exact hsp.bp | exact hsp.br | exact hsp.bc | exact sepO hsp.hp | exact sepO hsp.hr | exact sepO hsp.hc | exact sepO hsp.pr | exact sepO hsp.pc | exact sepO hsp.rc | exact sepO hsp.hp.symm | exact sepO hsp.hr.symm | exact sepO hsp.hc.symm | exact sepO hsp.pr.symm | exact sepO hsp.pc.symm | exact sepO hsp.rc.symm | exact hsp.sh | exact hsp.sp | exact hsp.sr | exact hsp.sc | omega | (simp only [blk_some, hi1_some] at *; omega))
                refine rg_end ?_
                refine n_then ?_
                refine wp_seq ?_
                refine wp_seq ?_
                refine rg ?_
                refine st (y_fld fld35_0 rfl) ?_
                refine st (y_lb hb18 na3 rfl rfl) ?_
                refine st (y_ixR Try.underlying78 sz4 rfl rfl rfl (by omega) (by omega)) ?_
                refine st (y_le hN.sl na4 rfl (by omega) (by omega) rfl) ?_
                refine st (y_not rfl) ?_
                refine rg_end ?_
                refine n_then ?_
                refine cnd rfl (fun hc10 => ?_) (fun hc10 => ?_)
                ·
                  try simp only [decide_eq_true_eq, decide_eq_false_iff_not, Bool.not_eq_true', Bool.not_eq_false', Bool.and_eq_true, Bool.or_eq_true, Bool.or_eq_false_iff, Bool.cond_true_right, Bool.cond_false_right, Bool.cond_true_left, Bool.cond_false_left, ne_eq, Decidable.not_not, bne_iff_ne, beq_iff_eq, beq_eq_false_iff_ne, Bool.not_true, Bool.not_false] at hc10
                  have hnew : nw S l (el S.fl (k : Int)).rs = false := hNp.symm.trans hc10
                  have hW1 := hW
                  rw [← mov_skip hc9 hnew] at hW1
                  have hgo1 := fkGo_skip hc9 hgo hnew
                  have hRs1 := hRs
                  have hRv1 := hRv
                  have hAsk1 := hAsk
                  have hsl1 := hsl
                  have hVl1 := hVl
                  refine wp_exit ?_
                  refine e_then (e_blk (?_))
                  refine n_then ?_
                  refine rg ?_
                  refine st (y_add rfl rfl (by omega)) ?_
                  refine st (mvI rfl) ?_
                  refine rg_end ?_
                  exact n_then ⟨(k + 1, _, _, _, _, _), _, rfl, same_lk rfl (same_h0), ⟨rfl, trivial⟩, ⟨hlp3, by omega, hsl1, hVl1, hRs1, hRv1, hAsk1, hW1, hgo1, hA, hV⟩, by first | omega | (dsimp only; omega)⟩
                ·
                  try simp only [decide_eq_true_eq, decide_eq_false_iff_not, Bool.not_eq_true', Bool.not_eq_false', Bool.and_eq_true, Bool.or_eq_true, Bool.or_eq_false_iff, Bool.cond_true_right, Bool.cond_false_right, Bool.cond_true_left, Bool.cond_false_left, ne_eq, Decidable.not_not, bne_iff_ne, beq_iff_eq, beq_eq_false_iff_ne, Bool.not_true, Bool.not_false] at hc10
                  have hnew : nw S l (el S.fl (k : Int)).rs = true := hNp.symm.trans hc10
                  refine wp_skip ?_
                  refine n_then ?_
                  refine wp_seq ?_
                  refine wp_seq ?_
                  refine rg ?_
                  refine st (y_fld fld35_1 rfl) ?_
                  refine st (y_lb hb18 na3 rfl rfl) ?_
                  refine st (y_ixR Try.underlying78 sz4 rfl rfl rfl (by omega) (by omega)) ?_
                  refine st (y_le hA.sl na4 rfl (by omega) (by omega) rfl) ?_
                  refine rg_end ?_
                  refine n_then ?_
                  refine cnd rfl (fun hc11 => ?_) (fun hc11 => ?_)
                  ·
                    try simp only [decide_eq_true_eq, decide_eq_false_iff_not, Bool.not_eq_true', Bool.not_eq_false', Bool.and_eq_true, Bool.or_eq_true, Bool.or_eq_false_iff, Bool.cond_true_right, Bool.cond_false_right, Bool.cond_true_left, Bool.cond_false_left, ne_eq, Decidable.not_not, bne_iff_ne, beq_iff_eq, beq_eq_false_iff_ne, Bool.not_true, Bool.not_false] at hc11
                    have hask := hsP.symm.trans hc11
                    refine wp_seq ?_
                    refine wp_seq ?_
                    refine rgD 6 (fun w_ => Ext w103 w_) (fun i => false) mixed (by kernel_rfl) ?_
                    intro w107 ho108 hs109
                    refine ⟨ho108, ?_⟩
                    have hx110 := ho108
                    refine tn rfl (fun _ hG => y_fld fld35_1 rfl) ?_
                    refine tn rfl (fun _ hG => y_lb (hb18.ext hG) na3 rfl rfl) ?_
                    refine tn rfl (fun _ hG => y_ixR Try.underlying79 sz3 rfl rfl rfl (by omega) (by omega)) ?_
                    refine tn rfl (fun _ hG => y_le (hV.ext hG).sl na3 rfl (by omega) (by omega) rfl) ?_
                    refine tn rfl (fun _ hG => y_fld fld35_2 rfl) ?_
                    refine tn rfl (fun _ hG => y_lb (hb18.ext hG) na3 rfl rfl) ?_
                    refine t_end ?_
                    have hz111 := hx110.size
                    replace hX := hX.ext hx110
                    replace hb := hb.ext hx110
                    replace hh := hh.ext hx110
                    replace hp := hp.ext hx110
                    replace hr := hr.ext hx110
                    replace hc_ := hc_.ext hx110
                    replace hf := hf.ext hx110
                    replace hL := hL.ext hx110
                    replace hE := hE.step hx110 (.inl (Nat.le_refl _))
                    replace hN := hN.ext hx110
                    replace hA := hA.ext hx110
                    replace hV := hV.ext hx110
                    replace hlp3 := hlp3.step hx110 (.inl (Nat.le_refl _))
                    replace hb18 := hb18.ext hx110
                    refine st (y_neq rfl rfl) ?_
                    refine rg_end ?_
                    refine n_then ?_
                    refine cnd rfl (fun hc12 => ?_) (fun hc12 => ?_)
                    ·
                      try simp only [decide_eq_true_eq, decide_eq_false_iff_not, Bool.not_eq_true', Bool.not_eq_false', Bool.and_eq_true, Bool.or_eq_true, Bool.or_eq_false_iff, Bool.cond_true_right, Bool.cond_false_right, Bool.cond_true_left, Bool.cond_false_left, ne_eq, Decidable.not_not, bne_iff_ne, beq_iff_eq, beq_eq_false_iff_ne, Bool.not_true, Bool.not_false] at hc12
                      have he := (grE5 ht hbad hc3' hlz).trans (fkGo_clash hc9 hgo hnew (hAsk.clash hask (fun h => hc12 (hVp.trans h))))
                      refine wp_seq ?_
                      refine rg ?_
                      refine st (asI rfl) ?_
                      refine rg_end ?_
                      refine n_then ?_
                      refine wp_ret ?_
                      refine r_then (r_then (r_blk (r_then (r_then (r_blk (r_then (ret1 (v := (.int .i64 _)) Try.results29 rfl ?_)))))))
                      exact ⟨vi he.symm, by rw [grS_err (by rw [he]; decide)]; exact hX, hE⟩
                    ·
                      try simp only [decide_eq_true_eq, decide_eq_false_iff_not, Bool.not_eq_true', Bool.not_eq_false', Bool.and_eq_true, Bool.or_eq_true, Bool.or_eq_false_iff, Bool.cond_true_right, Bool.cond_false_right, Bool.cond_true_left, Bool.cond_false_left, ne_eq, Decidable.not_not, bne_iff_ne, beq_iff_eq, beq_eq_false_iff_ne, Bool.not_true, Bool.not_false] at hc12
                      obtain ⟨j1, j2, j3⟩ := hAsk.stuck hask (hVp.symm.trans hc12)
                      have hgo1 := fkGo_step hc9 hgo hnew j3 j1
                      rw [j2] at hgo1
                      have hW1 : W = wanF (wan S l) (movesOf (nw S l) (S.fl.take (k + 1))) := by rw [mov_step hc9 hnew, wanF_snoc, ← hW]; exact j2.symm
                      have hRs1 := hRs
                      have hRv1 := hRv
                      have hAsk1 := hAsk
                      have hsl1 := hsl
                      have hVl1 := hVl
                      refine wp_skip ?_
                      refine n_then ?_
                      refine wp_exit ?_
                      refine e_then (e_blk (?_))
                      refine n_then ?_
                      refine rg ?_
                      refine st (y_add rfl rfl (by omega)) ?_
                      refine st (mvI rfl) ?_
                      refine rg_end ?_
                      exact n_then ⟨(k + 1, _, _, _, _, _), _, rfl, same_lk rfl (same_h0), ⟨rfl, trivial⟩, ⟨hlp3, by omega, hsl1, hVl1, hRs1, hRv1, hAsk1, hW1, hgo1, hA, hV⟩, by first | omega | (dsimp only; omega)⟩
                  ·
                    try simp only [decide_eq_true_eq, decide_eq_false_iff_not, Bool.not_eq_true', Bool.not_eq_false', Bool.and_eq_true, Bool.or_eq_true, Bool.or_eq_false_iff, Bool.cond_true_right, Bool.cond_false_right, Bool.cond_true_left, Bool.cond_false_left, ne_eq, Decidable.not_not, bne_iff_ne, beq_iff_eq, beq_eq_false_iff_ne, Bool.not_true, Bool.not_false] at hc11
                    have hask := hsP.symm.trans hc11
                    have hncl := hAsk.noclash hask
                    refine wp_skip ?_
                    refine n_then ?_
                    refine wp_seq ?_
                    refine cut (γ := Unit) [137, 138, 139, 140, 141, 142, 143, 144, 145, 146, 147, 148, 149, 150, 151, 152, 153, 154, 155, 156, 157, 158, 159, 160, 161, 162, 163, 164, 165] (fun _ => [(165, .bool (jam S (el S.fl (k : Int))))]) (fun _ w_ => Ext w103 w_ ∧ True) ?_ ?_
                    ·
                      have hcut := Out.refl 0 0 w103
                      refine rgD 25 (fun w_ => Ext w103 w_) (fun i => false) mixed (by kernel_rfl) ?_
                      intro w112 ho113 hs114
                      refine ⟨ho113, ?_⟩
                      have hx115 := ho113
                      refine tn rfl (fun _ hG => mvP rfl) ?_
                      refine tn rfl (fun _ hG => y_nil rfl) ?_
                      refine tn rfl (fun _ hG => y_fld fld67_1 rfl) ?_
                      refine tn rfl (fun _ hG => y_lb (hb.ext hG) na23 rfl rfl) ?_
                      refine tn rfl (fun _ hG => y_fld fld35_1 rfl) ?_
                      refine tn rfl (fun _ hG => y_lb (hb18.ext hG) na3 rfl rfl) ?_
                      refine tn rfl (fun _ hG => y_ix (hp.ext hG).sl sl23 rfl (hlp.symm) rfl (by omega) (by omega)) ?_
                      refine tn rfl (fun _ hG => y_le (hp.ext hG).sl na3 rfl (by omega) (by omega) rfl) ?_
                      refine tn rfl (fun _ hG => y_fld fld35_2 rfl) ?_
                      refine tn rfl (fun _ hG => y_lb (hb18.ext hG) na3 rfl rfl) ?_
                      refine tn rfl (fun _ hG => y_neq rfl rfl) ?_
                      refine tn rfl (fun _ hG => mvB rfl) ?_
                      refine gspT 148 rfl (fun hg116 => ?_) (fun hg116 => ?_)
                      ·
                        have hg116n := hg116; try simp only [decide_eq_true_eq, decide_eq_false_iff_not, Bool.not_eq_true', Bool.not_eq_false', Bool.and_eq_true, Bool.or_eq_true, Bool.or_eq_false_iff, Bool.cond_true_right, Bool.cond_false_right, Bool.cond_true_left, Bool.cond_false_left, ne_eq, Decidable.not_not, bne_iff_ne, beq_iff_eq, beq_eq_false_iff_ne, Bool.not_true, Bool.not_false] at hg116n
                        refine tng rfl rfl rfl hg116 (fun _ hG => mvP rfl) ?_
                        refine tng rfl rfl rfl hg116 (fun _ hG => y_nil rfl) ?_
                        refine tng rfl rfl rfl hg116 (fun _ hG => y_fld fld67_0 rfl) ?_
                        refine tng rfl rfl rfl hg116 (fun _ hG => y_lb (hb.ext hG) na23 rfl rfl) ?_
                        refine tng rfl rfl rfl hg116 (fun _ hG => y_fld fld35_1 rfl) ?_
                        refine tng rfl rfl rfl hg116 (fun _ hG => y_lb (hb18.ext hG) na3 rfl rfl) ?_
                        refine tng rfl rfl rfl hg116 (fun _ hG => y_ix (hh.ext hG).sl sl23 rfl (hlh.symm) rfl (by omega) (by omega)) ?_
                        refine tng rfl rfl rfl hg116 (fun _ hG => y_le (hh.ext hG).sl na3 rfl (by omega) (by omega) rfl) ?_
                        refine tng rfl rfl rfl hg116 (fun _ hG => y_geq rfl rfl) ?_
                        refine tng rfl rfl rfl hg116 (fun _ hG => mvB rfl) ?_
                        refine gspT 158 rfl (fun hg117 => ?_) (fun hg117 => ?_)
                        ·
                          have hg117n := hg117; try simp only [decide_eq_true_eq, decide_eq_false_iff_not, Bool.not_eq_true', Bool.not_eq_false', Bool.and_eq_true, Bool.or_eq_true, Bool.or_eq_false_iff, Bool.cond_true_right, Bool.cond_false_right, Bool.cond_true_left, Bool.cond_false_left, ne_eq, Decidable.not_not, bne_iff_ne, beq_iff_eq, beq_eq_false_iff_ne, Bool.not_true, Bool.not_false] at hg117n
                          refine tns rfl rfl hg117 ?_
                          refine tns rfl rfl hg117 ?_
                          refine tns rfl rfl hg117 ?_
                          refine t_end ?_
                          have hz118 := hx115.size
                          replace hX := hX.ext hx115
                          replace hb := hb.ext hx115
                          replace hh := hh.ext hx115
                          replace hp := hp.ext hx115
                          replace hr := hr.ext hx115
                          replace hc_ := hc_.ext hx115
                          replace hf := hf.ext hx115
                          replace hL := hL.ext hx115
                          replace hE := hE.step hx115 (.inl (Nat.le_refl _))
                          replace hN := hN.ext hx115
                          replace hA := hA.ext hx115
                          replace hV := hV.ext hx115
                          replace hlp3 := hlp3.step hx115 (.inl (Nat.le_refl _))
                          replace hb18 := hb18.ext hx115
                          replace hcut := hcut.step hx115 (.inl (Nat.le_refl _))
                          refine sts rfl rfl hg117 ?_
                          refine sts rfl rfl hg117 ?_
                          refine stg rfl rfl hg116 (y_pickT rfl hg117 (v := .bool _) rfl) ?_
                          refine st (y_pickT rfl hg116 (v := .bool _) rfl) ?_
                          refine rg_end ?_
                          exact n_then ⟨(), _, rfl, same_lk rfl (same_rfl), ⟨vb (by simp only [jam, decide_eq_true_eq, decide_eq_false_iff_not, Bool.not_eq_true', Bool.not_eq_eq_eq_not, Bool.not_true, Bool.false_eq_true, false_iff, true_iff, iff_true, iff_false]; omega), trivial⟩, ⟨hcut, trivial⟩⟩
                        ·
                          have hg117n := hg117; try simp only [decide_eq_true_eq, decide_eq_false_iff_not, Bool.not_eq_true', Bool.not_eq_false', Bool.and_eq_true, Bool.or_eq_true, Bool.or_eq_false_iff, Bool.cond_true_right, Bool.cond_false_right, Bool.cond_true_left, Bool.cond_false_left, ne_eq, Decidable.not_not, bne_iff_ne, beq_iff_eq, beq_eq_false_iff_ne, Bool.not_true, Bool.not_false] at hg117n
                          refine tng rfl rfl rfl hg117 (fun _ hG => mvP rfl) ?_
                          refine tng rfl rfl rfl hg117 (fun _ hG => y_fld fld35_1 rfl) ?_
                          refine tng rfl rfl rfl hg117 (fun _ hG => y_lb (hb18.ext hG) na3 rfl rfl) ?_
                          refine t_end ?_
                          have hz119 := hx115.size
                          replace hX := hX.ext hx115
                          replace hb := hb.ext hx115
                          replace hh := hh.ext hx115
                          replace hp := hp.ext hx115
                          replace hr := hr.ext hx115
                          replace hc_ := hc_.ext hx115
                          replace hf := hf.ext hx115
                          replace hL := hL.ext hx115
                          replace hE := hE.step hx115 (.inl (Nat.le_refl _))
                          replace hN := hN.ext hx115
                          replace hA := hA.ext hx115
                          replace hV := hV.ext hx115
                          replace hlp3 := hlp3.step hx115 (.inl (Nat.le_refl _))
                          replace hb18 := hb18.ext hx115
                          replace hcut := hcut.step hx115 (.inl (Nat.le_refl _))
                          refine scg rfl rfl hg117 cl46 (rlk_Flanks_ok S _ _ _ _ _ hX hS) rfl ?_
                          rintro v124 w120 ⟨rfl, ho121⟩
                          have hz125 := ho121.size
                          replace hX := hX.ext ho121
                          replace hb := hb.ext ho121
                          replace hh := hh.ext ho121
                          replace hp := hp.ext ho121
                          replace hr := hr.ext ho121
                          replace hc_ := hc_.ext ho121
                          replace hf := hf.ext ho121
                          replace hL := hL.ext ho121
                          replace hE := hE.step ho121 (.inl (Nat.le_refl _))
                          replace hN := hN.ext ho121
                          replace hA := hA.ext ho121
                          replace hV := hV.ext ho121
                          replace hlp3 := hlp3.step ho121 (.inl (Nat.le_refl _))
                          replace hb18 := hb18.ext ho121
                          replace hcut := hcut.step ho121 (.inl (Nat.le_refl _))
                          refine stg rfl rfl hg117 (y_gtr rfl rfl) ?_
                          refine stg rfl rfl hg116 (y_pickF rfl hg117 (v := .bool _) rfl) ?_
                          refine st (y_pickT rfl hg116 (v := .bool _) rfl) ?_
                          refine rg_end ?_
                          exact n_then ⟨(), _, rfl, same_lk rfl (same_rfl), ⟨vb (by simp only [jam, decide_eq_true_eq, decide_eq_false_iff_not, Bool.not_eq_true', Bool.not_eq_eq_eq_not, Bool.not_true, Bool.false_eq_true, false_iff, true_iff, iff_true, iff_false]; omega), trivial⟩, ⟨hcut, trivial⟩⟩
                      ·
                        have hg116n := hg116; try simp only [decide_eq_true_eq, decide_eq_false_iff_not, Bool.not_eq_true', Bool.not_eq_false', Bool.and_eq_true, Bool.or_eq_true, Bool.or_eq_false_iff, Bool.cond_true_right, Bool.cond_false_right, Bool.cond_true_left, Bool.cond_false_left, ne_eq, Decidable.not_not, bne_iff_ne, beq_iff_eq, beq_eq_false_iff_ne, Bool.not_true, Bool.not_false] at hg116n
                        refine tns rfl rfl hg116 ?_
                        refine tns rfl rfl hg116 ?_
                        refine tns rfl rfl hg116 ?_
                        refine tns rfl rfl hg116 ?_
                        refine tns rfl rfl hg116 ?_
                        refine tns rfl rfl hg116 ?_
                        refine tns rfl rfl hg116 ?_
                        refine tns rfl rfl hg116 ?_
                        refine tns rfl rfl hg116 ?_
                        refine tns rfl rfl hg116 ?_
                        refine tnu rfl rfl ?_
                        refine tnu rfl rfl ?_
                        refine tnu rfl rfl ?_
                        refine t_end ?_
                        have hz126 := hx115.size
                        replace hX := hX.ext hx115
                        replace hb := hb.ext hx115
                        replace hh := hh.ext hx115
                        replace hp := hp.ext hx115
                        replace hr := hr.ext hx115
                        replace hc_ := hc_.ext hx115
                        replace hf := hf.ext hx115
                        replace hL := hL.ext hx115
                        replace hE := hE.step hx115 (.inl (Nat.le_refl _))
                        replace hN := hN.ext hx115
                        replace hA := hA.ext hx115
                        replace hV := hV.ext hx115
                        replace hlp3 := hlp3.step hx115 (.inl (Nat.le_refl _))
                        replace hb18 := hb18.ext hx115
                        replace hcut := hcut.step hx115 (.inl (Nat.le_refl _))
                        refine stu rfl rfl ?_
                        refine stu rfl rfl ?_
                        refine sts rfl rfl hg116 ?_
                        refine st (y_pickF rfl hg116 (v := .bool _) rfl) ?_
                        refine rg_end ?_
                        exact n_then ⟨(), _, rfl, same_lk rfl (same_rfl), ⟨vb (by simp only [jam, decide_eq_true_eq, decide_eq_false_iff_not, Bool.not_eq_true', Bool.not_eq_eq_eq_not, Bool.not_true, Bool.false_eq_true, false_iff, true_iff, iff_true, iff_false]; omega), trivial⟩, ⟨hcut, trivial⟩⟩
                    ·
                      rintro _ hav_ w127 ⟨ho128, _⟩
                      have hz129 := ho128.size
                      replace hX := hX.ext ho128
                      replace hb := hb.ext ho128
                      replace hh := hh.ext ho128
                      replace hp := hp.ext ho128
                      replace hr := hr.ext ho128
                      replace hc_ := hc_.ext ho128
                      replace hf := hf.ext ho128
                      replace hL := hL.ext ho128
                      replace hE := hE.step ho128 (.inl (Nat.le_refl _))
                      replace hN := hN.ext ho128
                      replace hA := hA.ext ho128
                      replace hV := hV.ext ho128
                      replace hlp3 := hlp3.step ho128 (.inl (Nat.le_refl _))
                      replace hb18 := hb18.ext ho128
                      refine cnd rfl (fun hc13 => ?_) (fun hc13 => ?_)
                      ·
                        try simp only [decide_eq_true_eq, decide_eq_false_iff_not, Bool.not_eq_true', Bool.not_eq_false', Bool.and_eq_true, Bool.or_eq_true, Bool.or_eq_false_iff, Bool.cond_true_right, Bool.cond_false_right, Bool.cond_true_left, Bool.cond_false_left, ne_eq, Decidable.not_not, bne_iff_ne, beq_iff_eq, beq_eq_false_iff_ne, Bool.not_true, Bool.not_false] at hc13
                        have he := (grE5 ht hbad hc3' hlz).trans (fkGo_stuck hc9 hgo hnew hncl hc13)
                        refine wp_seq ?_
                        refine rg ?_
                        refine st (asI rfl) ?_
                        refine rg_end ?_
                        refine n_then ?_
                        refine wp_ret ?_
                        refine r_then (r_blk (r_then (r_then (r_blk (r_then (ret1 (v := (.int .i64 _)) Try.results29 rfl ?_))))))
                        exact ⟨vi he.symm, by rw [grS_err (by rw [he]; decide)]; exact hX, hE⟩
                      ·
                        try simp only [decide_eq_true_eq, decide_eq_false_iff_not, Bool.not_eq_true', Bool.not_eq_false', Bool.and_eq_true, Bool.or_eq_true, Bool.or_eq_false_iff, Bool.cond_true_right, Bool.cond_false_right, Bool.cond_true_left, Bool.cond_false_left, ne_eq, Decidable.not_not, bne_iff_ne, beq_iff_eq, beq_eq_false_iff_ne, Bool.not_true, Bool.not_false] at hc13
                        have hgo1 := fkGo_step hc9 hgo hnew hncl hc13
                        have hW1 : upd W (el S.fl (k : Int)).pt (el S.fl (k : Int)).po = wanF (wan S l) (movesOf (nw S l) (S.fl.take (k + 1))) := by rw [mov_step hc9 hnew, wanF_snoc, ← hW]
                        have hRs1 := hRs.set (v := true) hfk.2.2.1 (by omega)
                        have hRv1 := hRv.set (v := (el S.fl (k : Int)).po) hfk.2.2.1 (by omega)
                        have hAsk1 := hAsk.add hc13 hfk.2.2.2.2.1
                        have hsl1 : (s.set (el S.fl (k : Int)).pt.toNat true).length = 144 := by simp [hsl]
                        have hVl1 : (V.set (el S.fl (k : Int)).pt.toNat (el S.fl (k : Int)).po).length = 144 := by simp [hVl]
                        refine wp_skip ?_
                        refine n_then ?_
                        refine rgD 8 (fun w_ => Out bA (bA + 1) w127 w_) (fun i => Nat.beq i 7) mixed (by kernel_rfl) ?_
                        intro w130 ho131 hs132
                        refine ⟨ho131.wide (.inl (Nat.le_refl _)), ?_⟩
                        have hx133 := ho131.wide (a' := bA) (b' := (bA + 1)) (.inl (Nat.le_refl _))
                        replace hA := hA.ext ho131
                        refine tn rfl (fun _ hG => y_fld fld35_1 rfl) ?_
                        refine tn rfl (fun _ hG => y_lb (hb18.out hG (by omega)) na3 rfl rfl) ?_
                        refine tn rfl (fun _ hG => y_fld fld35_1 rfl) ?_
                        refine tn rfl (fun _ hG => y_lb (hb18.out hG (by omega)) na3 rfl rfl) ?_
                        refine tn rfl (fun _ hG => y_fld fld35_2 rfl) ?_
                        refine tn rfl (fun _ hG => y_lb (hb18.out hG (by omega)) na3 rfl rfl) ?_
                        refine tn rfl (fun _ hG => y_ixR Try.underlying78 sz4 rfl rfl rfl (by omega) (by omega)) ?_
                        refine td0 rfl (d_se (j := 0) (e' := true) hA sz4 rfl rfl rfl (by omega) (by omega) (Nat.le_of_ble_eq_true rfl) rfl ?_)
                        intro w134 hs136 ho135 hA'
                        clear hA; have hA := hA'; clear hA'
                        have hx137 : Out bA (bA + 1) w127 w134 := hx133.step ho135 (by first | exact hsp.bh | exact hsp.bp | exact hsp.br | exact hsp.bc | exact sepO hsp.hp | exact sepO hsp.hr | exact sepO hsp.hc | exact sepO hsp.pr | exact sepO hsp.pc | exact sepO hsp.rc | exact sepO hsp.hp.symm | exact sepO hsp.hr.symm | exact sepO hsp.hc.symm | exact sepO hsp.pr.symm | exact sepO hsp.pc.symm | exact sepO hsp.rc.symm | exact hsp.sh | exact hsp.sp | exact hsp.sr | exact hsp.sc | omega | (simp only [blk_some, hi1_some] at *; omega))
                        have hz138 := ho135.size
                        refine ⟨hx137, ?_⟩
                        refine t_end ?_
                        have hz139 := hx137.size
                        replace hX := hX.out hx137 (by first | exact hsp.bh | exact hsp.bp | exact hsp.br | exact hsp.bc | exact sepO hsp.hp | exact sepO hsp.hr | exact sepO hsp.hc | exact sepO hsp.pr | exact sepO hsp.pc | exact sepO hsp.rc | exact sepO hsp.hp.symm | exact sepO hsp.hr.symm | exact sepO hsp.hc.symm | exact sepO hsp.pr.symm | exact sepO hsp.pc.symm | exact sepO hsp.rc.symm | exact hsp.sh | exact hsp.sp | exact hsp.sr | exact hsp.sc | omega | (simp only [blk_some, hi1_some] at *; omega))
                        replace hb := hb.out hx137 (by first | exact hsp.bh | exact hsp.bp | exact hsp.br | exact hsp.bc | exact sepO hsp.hp | exact sepO hsp.hr | exact sepO hsp.hc | exact sepO hsp.pr | exact sepO hsp.pc | exact sepO hsp.rc | exact sepO hsp.hp.symm | exact sepO hsp.hr.symm | exact sepO hsp.hc.symm | exact sepO hsp.pr.symm | exact sepO hsp.pc.symm | exact sepO hsp.rc.symm | exact hsp.sh | exact hsp.sp | exact hsp.sr | exact hsp.sc | omega | (simp only [blk_some, hi1_some] at *; omega))
                        replace hh := hh.out hx137 (by first | exact hsp.bh | exact hsp.bp | exact hsp.br | exact hsp.bc | exact sepO hsp.hp | exact sepO hsp.hr | exact sepO hsp.hc | exact sepO hsp.pr | exact sepO hsp.pc | exact sepO hsp.rc | exact sepO hsp.hp.symm | exact sepO hsp.hr.symm | exact sepO hsp.hc.symm | exact sepO hsp.pr.symm | exact sepO hsp.pc.symm | exact sepO hsp.rc.symm | exact hsp.sh | exact hsp.sp | exact hsp.sr | exact hsp.sc | omega | (simp only [blk_some, hi1_some] at *; omega))
                        replace hp := hp.out hx137 (by first | exact hsp.bh | exact hsp.bp | exact hsp.br | exact hsp.bc | exact sepO hsp.hp | exact sepO hsp.hr | exact sepO hsp.hc | exact sepO hsp.pr | exact sepO hsp.pc | exact sepO hsp.rc | exact sepO hsp.hp.symm | exact sepO hsp.hr.symm | exact sepO hsp.hc.symm | exact sepO hsp.pr.symm | exact sepO hsp.pc.symm | exact sepO hsp.rc.symm | exact hsp.sh | exact hsp.sp | exact hsp.sr | exact hsp.sc | omega | (simp only [blk_some, hi1_some] at *; omega))
                        replace hr := hr.out hx137 (by first | exact hsp.bh | exact hsp.bp | exact hsp.br | exact hsp.bc | exact sepO hsp.hp | exact sepO hsp.hr | exact sepO hsp.hc | exact sepO hsp.pr | exact sepO hsp.pc | exact sepO hsp.rc | exact sepO hsp.hp.symm | exact sepO hsp.hr.symm | exact sepO hsp.hc.symm | exact sepO hsp.pr.symm | exact sepO hsp.pc.symm | exact sepO hsp.rc.symm | exact hsp.sh | exact hsp.sp | exact hsp.sr | exact hsp.sc | omega | (simp only [blk_some, hi1_some] at *; omega))
                        replace hc_ := hc_.out hx137 (by first | exact hsp.bh | exact hsp.bp | exact hsp.br | exact hsp.bc | exact sepO hsp.hp | exact sepO hsp.hr | exact sepO hsp.hc | exact sepO hsp.pr | exact sepO hsp.pc | exact sepO hsp.rc | exact sepO hsp.hp.symm | exact sepO hsp.hr.symm | exact sepO hsp.hc.symm | exact sepO hsp.pr.symm | exact sepO hsp.pc.symm | exact sepO hsp.rc.symm | exact hsp.sh | exact hsp.sp | exact hsp.sr | exact hsp.sc | omega | (simp only [blk_some, hi1_some] at *; omega))
                        replace hf := hf.out hx137 (by first | exact hsp.bh | exact hsp.bp | exact hsp.br | exact hsp.bc | exact sepO hsp.hp | exact sepO hsp.hr | exact sepO hsp.hc | exact sepO hsp.pr | exact sepO hsp.pc | exact sepO hsp.rc | exact sepO hsp.hp.symm | exact sepO hsp.hr.symm | exact sepO hsp.hc.symm | exact sepO hsp.pr.symm | exact sepO hsp.pc.symm | exact sepO hsp.rc.symm | exact hsp.sh | exact hsp.sp | exact hsp.sr | exact hsp.sc | omega | (simp only [blk_some, hi1_some] at *; omega))
                        replace hL := hL.out hx137 (by first | exact hsp.bh | exact hsp.bp | exact hsp.br | exact hsp.bc | exact sepO hsp.hp | exact sepO hsp.hr | exact sepO hsp.hc | exact sepO hsp.pr | exact sepO hsp.pc | exact sepO hsp.rc | exact sepO hsp.hp.symm | exact sepO hsp.hr.symm | exact sepO hsp.hc.symm | exact sepO hsp.pr.symm | exact sepO hsp.pc.symm | exact sepO hsp.rc.symm | exact hsp.sh | exact hsp.sp | exact hsp.sr | exact hsp.sc | omega | (simp only [blk_some, hi1_some] at *; omega))
                        replace hE := hE.step hx137 (by first | exact hsp.bh | exact hsp.bp | exact hsp.br | exact hsp.bc | exact sepO hsp.hp | exact sepO hsp.hr | exact sepO hsp.hc | exact sepO hsp.pr | exact sepO hsp.pc | exact sepO hsp.rc | exact sepO hsp.hp.symm | exact sepO hsp.hr.symm | exact sepO hsp.hc.symm | exact sepO hsp.pr.symm | exact sepO hsp.pc.symm | exact sepO hsp.rc.symm | exact hsp.sh | exact hsp.sp | exact hsp.sr | exact hsp.sc | omega | (simp only [blk_some, hi1_some] at *; omega))
                        replace hN := hN.out hx137 (by first | exact hsp.bh | exact hsp.bp | exact hsp.br | exact hsp.bc | exact sepO hsp.hp | exact sepO hsp.hr | exact sepO hsp.hc | exact sepO hsp.pr | exact sepO hsp.pc | exact sepO hsp.rc | exact sepO hsp.hp.symm | exact sepO hsp.hr.symm | exact sepO hsp.hc.symm | exact sepO hsp.pr.symm | exact sepO hsp.pc.symm | exact sepO hsp.rc.symm | exact hsp.sh | exact hsp.sp | exact hsp.sr | exact hsp.sc | omega | (simp only [blk_some, hi1_some] at *; omega))
                        replace hV := hV.out hx137 (by first | exact hsp.bh | exact hsp.bp | exact hsp.br | exact hsp.bc | exact sepO hsp.hp | exact sepO hsp.hr | exact sepO hsp.hc | exact sepO hsp.pr | exact sepO hsp.pc | exact sepO hsp.rc | exact sepO hsp.hp.symm | exact sepO hsp.hr.symm | exact sepO hsp.hc.symm | exact sepO hsp.pr.symm | exact sepO hsp.pc.symm | exact sepO hsp.rc.symm | exact hsp.sh | exact hsp.sp | exact hsp.sr | exact hsp.sc | omega | (simp only [blk_some, hi1_some] at *; omega))
                        replace hlp3 := hlp3.step hx137 (by first | exact hsp.bh | exact hsp.bp | exact hsp.br | exact hsp.bc | exact sepO hsp.hp | exact sepO hsp.hr | exact sepO hsp.hc | exact sepO hsp.pr | exact sepO hsp.pc | exact sepO hsp.rc | exact sepO hsp.hp.symm | exact sepO hsp.hr.symm | exact sepO hsp.hc.symm | exact sepO hsp.pr.symm | exact sepO hsp.pc.symm | exact sepO hsp.rc.symm | exact hsp.sh | exact hsp.sp | exact hsp.sr | exact hsp.sc | omega | (simp only [blk_some, hi1_some] at *; omega))
                        replace hb18 := hb18.out hx137 (by first | exact hsp.bh | exact hsp.bp | exact hsp.br | exact hsp.bc | exact sepO hsp.hp | exact sepO hsp.hr | exact sepO hsp.hc | exact sepO hsp.pr | exact sepO hsp.pc | exact sepO hsp.rc | exact sepO hsp.hp.symm | exact sepO hsp.hr.symm | exact sepO hsp.hc.symm | exact sepO hsp.pr.symm | exact sepO hsp.pc.symm | exact sepO hsp.rc.symm | exact hsp.sh | exact hsp.sp | exact hsp.sr | exact hsp.sc | omega | (simp only [blk_some, hi1_some] at *; omega))
                        refine st (y_ixR Try.underlying79 sz3 rfl rfl rfl (by omega) (by omega)) ?_
                        refine sd0 (d_se (j := 0) (e' := (el S.fl (k : Int)).po) hV sz3 rfl rfl rfl (by omega) (by omega) (Nat.le_of_ble_eq_true rfl) rfl ?_)
                        intro w140 hs142 ho141 hV'
                        clear hV; have hV := hV'; clear hV'
                        have hz143 := ho141.size
                        replace hX := hX.out ho141 (by first | exact hsp.bh | exact hsp.bp | exact hsp.br | exact hsp.bc | exact sepO hsp.hp | exact sepO hsp.hr | exact sepO hsp.hc | exact sepO hsp.pr | exact sepO hsp.pc | exact sepO hsp.rc | exact sepO hsp.hp.symm | exact sepO hsp.hr.symm | exact sepO hsp.hc.symm | exact sepO hsp.pr.symm | exact sepO hsp.pc.symm | exact sepO hsp.rc.symm | exact hsp.sh | exact hsp.sp | exact hsp.sr | exact hsp.sc | omega | (simp only [blk_some, hi1_some] at *; omega))
                        replace hb := hb.out ho141 (by first | exact hsp.bh | exact hsp.bp | exact hsp.br | exact hsp.bc | exact sepO hsp.hp | exact sepO hsp.hr | exact sepO hsp.hc | exact sepO hsp.pr | exact sepO hsp.pc | exact sepO hsp.rc | exact sepO hsp.hp.symm | exact sepO hsp.hr.symm | exact sepO hsp.hc.symm | exact sepO hsp.pr.symm | exact sepO hsp.pc.symm | exact sepO hsp.rc.symm | exact hsp.sh | exact hsp.sp | exact hsp.sr | exact hsp.sc | omega | (simp only [blk_some, hi1_some] at *; omega))
                        replace hh := hh.out ho141 (by first | exact hsp.bh | exact hsp.bp | exact hsp.br | exact hsp.bc | exact sepO hsp.hp | exact sepO hsp.hr | exact sepO hsp.hc | exact sepO hsp.pr | exact sepO hsp.pc | exact sepO hsp.rc | exact sepO hsp.hp.symm | exact sepO hsp.hr.symm | exact sepO hsp.hc.symm | exact sepO hsp.pr.symm | exact sepO hsp.pc.symm | exact sepO hsp.rc.symm | exact hsp.sh | exact hsp.sp | exact hsp.sr | exact hsp.sc | omega | (simp only [blk_some, hi1_some] at *; omega))
                        replace hp := hp.out ho141 (by first | exact hsp.bh | exact hsp.bp | exact hsp.br | exact hsp.bc | exact sepO hsp.hp | exact sepO hsp.hr | exact sepO hsp.hc | exact sepO hsp.pr | exact sepO hsp.pc | exact sepO hsp.rc | exact sepO hsp.hp.symm | exact sepO hsp.hr.symm | exact sepO hsp.hc.symm | exact sepO hsp.pr.symm | exact sepO hsp.pc.symm | exact sepO hsp.rc.symm | exact hsp.sh | exact hsp.sp | exact hsp.sr | exact hsp.sc | omega | (simp only [blk_some, hi1_some] at *; omega))
                        replace hr := hr.out ho141 (by first | exact hsp.bh | exact hsp.bp | exact hsp.br | exact hsp.bc | exact sepO hsp.hp | exact sepO hsp.hr | exact sepO hsp.hc | exact sepO hsp.pr | exact sepO hsp.pc | exact sepO hsp.rc | exact sepO hsp.hp.symm | exact sepO hsp.hr.symm | exact sepO hsp.hc.symm | exact sepO hsp.pr.symm | exact sepO hsp.pc.symm | exact sepO hsp.rc.symm | exact hsp.sh | exact hsp.sp | exact hsp.sr | exact hsp.sc | omega | (simp only [blk_some, hi1_some] at *; omega))
                        replace hc_ := hc_.out ho141 (by first | exact hsp.bh | exact hsp.bp | exact hsp.br | exact hsp.bc | exact sepO hsp.hp | exact sepO hsp.hr | exact sepO hsp.hc | exact sepO hsp.pr | exact sepO hsp.pc | exact sepO hsp.rc | exact sepO hsp.hp.symm | exact sepO hsp.hr.symm | exact sepO hsp.hc.symm | exact sepO hsp.pr.symm | exact sepO hsp.pc.symm | exact sepO hsp.rc.symm | exact hsp.sh | exact hsp.sp | exact hsp.sr | exact hsp.sc | omega | (simp only [blk_some, hi1_some] at *; omega))
                        replace hf := hf.out ho141 (by first | exact hsp.bh | exact hsp.bp | exact hsp.br | exact hsp.bc | exact sepO hsp.hp | exact sepO hsp.hr | exact sepO hsp.hc | exact sepO hsp.pr | exact sepO hsp.pc | exact sepO hsp.rc | exact sepO hsp.hp.symm | exact sepO hsp.hr.symm | exact sepO hsp.hc.symm | exact sepO hsp.pr.symm | exact sepO hsp.pc.symm | exact sepO hsp.rc.symm | exact hsp.sh | exact hsp.sp | exact hsp.sr | exact hsp.sc | omega | (simp only [blk_some, hi1_some] at *; omega))
                        replace hL := hL.out ho141 (by first | exact hsp.bh | exact hsp.bp | exact hsp.br | exact hsp.bc | exact sepO hsp.hp | exact sepO hsp.hr | exact sepO hsp.hc | exact sepO hsp.pr | exact sepO hsp.pc | exact sepO hsp.rc | exact sepO hsp.hp.symm | exact sepO hsp.hr.symm | exact sepO hsp.hc.symm | exact sepO hsp.pr.symm | exact sepO hsp.pc.symm | exact sepO hsp.rc.symm | exact hsp.sh | exact hsp.sp | exact hsp.sr | exact hsp.sc | omega | (simp only [blk_some, hi1_some] at *; omega))
                        replace hE := hE.step ho141 (by first | exact hsp.bh | exact hsp.bp | exact hsp.br | exact hsp.bc | exact sepO hsp.hp | exact sepO hsp.hr | exact sepO hsp.hc | exact sepO hsp.pr | exact sepO hsp.pc | exact sepO hsp.rc | exact sepO hsp.hp.symm | exact sepO hsp.hr.symm | exact sepO hsp.hc.symm | exact sepO hsp.pr.symm | exact sepO hsp.pc.symm | exact sepO hsp.rc.symm | exact hsp.sh | exact hsp.sp | exact hsp.sr | exact hsp.sc | omega | (simp only [blk_some, hi1_some] at *; omega))
                        replace hN := hN.out ho141 (by first | exact hsp.bh | exact hsp.bp | exact hsp.br | exact hsp.bc | exact sepO hsp.hp | exact sepO hsp.hr | exact sepO hsp.hc | exact sepO hsp.pr | exact sepO hsp.pc | exact sepO hsp.rc | exact sepO hsp.hp.symm | exact sepO hsp.hr.symm | exact sepO hsp.hc.symm | exact sepO hsp.pr.symm | exact sepO hsp.pc.symm | exact sepO hsp.rc.symm | exact hsp.sh | exact hsp.sp | exact hsp.sr | exact hsp.sc | omega | (simp only [blk_some, hi1_some] at *; omega))
                        replace hA := hA.out ho141 (by first | exact hsp.bh | exact hsp.bp | exact hsp.br | exact hsp.bc | exact sepO hsp.hp | exact sepO hsp.hr | exact sepO hsp.hc | exact sepO hsp.pr | exact sepO hsp.pc | exact sepO hsp.rc | exact sepO hsp.hp.symm | exact sepO hsp.hr.symm | exact sepO hsp.hc.symm | exact sepO hsp.pr.symm | exact sepO hsp.pc.symm | exact sepO hsp.rc.symm | exact hsp.sh | exact hsp.sp | exact hsp.sr | exact hsp.sc | omega | (simp only [blk_some, hi1_some] at *; omega))
                        replace hlp3 := hlp3.step ho141 (by first | exact hsp.bh | exact hsp.bp | exact hsp.br | exact hsp.bc | exact sepO hsp.hp | exact sepO hsp.hr | exact sepO hsp.hc | exact sepO hsp.pr | exact sepO hsp.pc | exact sepO hsp.rc | exact sepO hsp.hp.symm | exact sepO hsp.hr.symm | exact sepO hsp.hc.symm | exact sepO hsp.pr.symm | exact sepO hsp.pc.symm | exact sepO hsp.rc.symm | exact hsp.sh | exact hsp.sp | exact hsp.sr | exact hsp.sc | omega | (simp only [blk_some, hi1_some] at *; omega))
                        replace hb18 := hb18.out ho141 (by first | exact hsp.bh | exact hsp.bp | exact hsp.br | exact hsp.bc | exact sepO hsp.hp | exact sepO hsp.hr | exact sepO hsp.hc | exact sepO hsp.pr | exact sepO hsp.pc | exact sepO hsp.rc | exact sepO hsp.hp.symm | exact sepO hsp.hr.symm | exact sepO hsp.hc.symm | exact sepO hsp.pr.symm | exact sepO hsp.pc.symm | exact sepO hsp.rc.symm | exact hsp.sh | exact hsp.sp | exact hsp.sr | exact hsp.sc | omega | (simp only [blk_some, hi1_some] at *; omega))
                        refine rg_end ?_
                        refine n_blk ?_
                        refine n_then ?_
                        refine rg ?_
                        refine st (y_add rfl rfl (by omega)) ?_
                        refine st (mvI rfl) ?_
                        refine rg_end ?_
                        exact n_then ⟨(k + 1, _, _, _, _, _), _, rfl, same_lk rfl (same_hav rfl (same_lk rfl (same_h0))), ⟨rfl, trivial⟩, ⟨hlp3, by omega, hsl1, hVl1, hRs1, hRv1, hAsk1, hW1, hgo1, hA, hV⟩, by first | omega | (dsimp only; omega)⟩
              ·
                try simp only [decide_eq_true_eq, decide_eq_false_iff_not, Bool.not_eq_true', Bool.not_eq_false', Bool.and_eq_true, Bool.or_eq_true, Bool.or_eq_false_iff, Bool.cond_true_right, Bool.cond_false_right, Bool.cond_true_left, Bool.cond_false_left, ne_eq, Decidable.not_not, bne_iff_ne, beq_iff_eq, beq_eq_false_iff_ne, Bool.not_true, Bool.not_false] at hc9
                have he := (grE5 ht hbad hc3' hlz).trans (fkGo_end hc9 hgo)
                rw [take_end hc9] at hW
                have hacc := hp.acc
                have hacc2 := hh.acc
                refine wp_exit ?_
                refine e_then (e_then (e_blk (?_)))
                refine n_then ?_
                refine wp_seq ?_
                refine wp_seq ?_
                refine rg ?_
                refine st (mvP rfl) ?_
                refine st (y_nil rfl) ?_
                refine st (y_fld fld67_0 rfl) ?_
                refine st (y_lb hb na23 rfl rfl) ?_
                refine st (y_len Try.underlying23 rfl) ?_
                refine st (mvI rfl) ?_
                refine rg_end ?_
                refine n_then ?_
                refine wp_block ?_
                refine lp (γ := Nat × List Int) [19, 180, 181, 182, 183, 184, 185, 186, 187, 188, 189, 190, 191, 192, 193, 194, 195] (fun ⟨k, P⟩ => [(180, .int .i64 (k : Int))]) (fun ⟨k, P⟩ w_ => Out (blk ap) (hi1 ap) w96 w_ ∧ (k : Int) ≤ S.rs.length ∧ PosTo S W k P ∧ Ow 3 encI 1 lo hi w_ ap cp P) (fun ⟨k, P⟩ => S.rs.length - k) (0, _) ⟨rfl, trivial⟩ ⟨Out.refl _ _ _, by simp, PosTo.start S W, hp⟩ ?_
                rintro ⟨k, P⟩ hav_ w144 ⟨ho145, hk, hPos, hp⟩
                have hlp4 := ho145
                have hz146 := ho145.size
                replace hb := hb.out ho145 (by first | exact hsp.bh | exact hsp.bp | exact hsp.br | exact hsp.bc | exact sepO hsp.hp | exact sepO hsp.hr | exact sepO hsp.hc | exact sepO hsp.pr | exact sepO hsp.pc | exact sepO hsp.rc | exact sepO hsp.hp.symm | exact sepO hsp.hr.symm | exact sepO hsp.hc.symm | exact sepO hsp.pr.symm | exact sepO hsp.pc.symm | exact sepO hsp.rc.symm | exact hsp.sh | exact hsp.sp | exact hsp.sr | exact hsp.sc | omega | (simp only [blk_some, hi1_some] at *; omega))
                replace hh := hh.out ho145 (by first | exact hsp.bh | exact hsp.bp | exact hsp.br | exact hsp.bc | exact sepO hsp.hp | exact sepO hsp.hr | exact sepO hsp.hc | exact sepO hsp.pr | exact sepO hsp.pc | exact sepO hsp.rc | exact sepO hsp.hp.symm | exact sepO hsp.hr.symm | exact sepO hsp.hc.symm | exact sepO hsp.pr.symm | exact sepO hsp.pc.symm | exact sepO hsp.rc.symm | exact hsp.sh | exact hsp.sp | exact hsp.sr | exact hsp.sc | omega | (simp only [blk_some, hi1_some] at *; omega))
                replace hr := hr.out ho145 (by first | exact hsp.bh | exact hsp.bp | exact hsp.br | exact hsp.bc | exact sepO hsp.hp | exact sepO hsp.hr | exact sepO hsp.hc | exact sepO hsp.pr | exact sepO hsp.pc | exact sepO hsp.rc | exact sepO hsp.hp.symm | exact sepO hsp.hr.symm | exact sepO hsp.hc.symm | exact sepO hsp.pr.symm | exact sepO hsp.pc.symm | exact sepO hsp.rc.symm | exact hsp.sh | exact hsp.sp | exact hsp.sr | exact hsp.sc | omega | (simp only [blk_some, hi1_some] at *; omega))
                replace hc_ := hc_.out ho145 (by first | exact hsp.bh | exact hsp.bp | exact hsp.br | exact hsp.bc | exact sepO hsp.hp | exact sepO hsp.hr | exact sepO hsp.hc | exact sepO hsp.pr | exact sepO hsp.pc | exact sepO hsp.rc | exact sepO hsp.hp.symm | exact sepO hsp.hr.symm | exact sepO hsp.hc.symm | exact sepO hsp.pr.symm | exact sepO hsp.pc.symm | exact sepO hsp.rc.symm | exact hsp.sh | exact hsp.sp | exact hsp.sr | exact hsp.sc | omega | (simp only [blk_some, hi1_some] at *; omega))
                replace hf := hf.out ho145 (by first | exact hsp.bh | exact hsp.bp | exact hsp.br | exact hsp.bc | exact sepO hsp.hp | exact sepO hsp.hr | exact sepO hsp.hc | exact sepO hsp.pr | exact sepO hsp.pc | exact sepO hsp.rc | exact sepO hsp.hp.symm | exact sepO hsp.hr.symm | exact sepO hsp.hc.symm | exact sepO hsp.pr.symm | exact sepO hsp.pc.symm | exact sepO hsp.rc.symm | exact hsp.sh | exact hsp.sp | exact hsp.sr | exact hsp.sc | omega | (simp only [blk_some, hi1_some] at *; omega))
                replace hL := hL.out ho145 (by first | exact hsp.bh | exact hsp.bp | exact hsp.br | exact hsp.bc | exact sepO hsp.hp | exact sepO hsp.hr | exact sepO hsp.hc | exact sepO hsp.pr | exact sepO hsp.pc | exact sepO hsp.rc | exact sepO hsp.hp.symm | exact sepO hsp.hr.symm | exact sepO hsp.hc.symm | exact sepO hsp.pr.symm | exact sepO hsp.pc.symm | exact sepO hsp.rc.symm | exact hsp.sh | exact hsp.sp | exact hsp.sr | exact hsp.sc | omega | (simp only [blk_some, hi1_some] at *; omega))
                replace hE := hE.step ho145 (by first | exact hsp.bh | exact hsp.bp | exact hsp.br | exact hsp.bc | exact sepO hsp.hp | exact sepO hsp.hr | exact sepO hsp.hc | exact sepO hsp.pr | exact sepO hsp.pc | exact sepO hsp.rc | exact sepO hsp.hp.symm | exact sepO hsp.hr.symm | exact sepO hsp.hc.symm | exact sepO hsp.pr.symm | exact sepO hsp.pc.symm | exact sepO hsp.rc.symm | exact hsp.sh | exact hsp.sp | exact hsp.sr | exact hsp.sc | omega | (simp only [blk_some, hi1_some] at *; omega))
                replace hN := hN.out ho145 (by first | exact hsp.bh | exact hsp.bp | exact hsp.br | exact hsp.bc | exact sepO hsp.hp | exact sepO hsp.hr | exact sepO hsp.hc | exact sepO hsp.pr | exact sepO hsp.pc | exact sepO hsp.rc | exact sepO hsp.hp.symm | exact sepO hsp.hr.symm | exact sepO hsp.hc.symm | exact sepO hsp.pr.symm | exact sepO hsp.pc.symm | exact sepO hsp.rc.symm | exact hsp.sh | exact hsp.sp | exact hsp.sr | exact hsp.sc | omega | (simp only [blk_some, hi1_some] at *; omega))
                replace hA := hA.out ho145 (by first | exact hsp.bh | exact hsp.bp | exact hsp.br | exact hsp.bc | exact sepO hsp.hp | exact sepO hsp.hr | exact sepO hsp.hc | exact sepO hsp.pr | exact sepO hsp.pc | exact sepO hsp.rc | exact sepO hsp.hp.symm | exact sepO hsp.hr.symm | exact sepO hsp.hc.symm | exact sepO hsp.pr.symm | exact sepO hsp.pc.symm | exact sepO hsp.rc.symm | exact hsp.sh | exact hsp.sp | exact hsp.sr | exact hsp.sc | omega | (simp only [blk_some, hi1_some] at *; omega))
                replace hV := hV.out ho145 (by first | exact hsp.bh | exact hsp.bp | exact hsp.br | exact hsp.bc | exact sepO hsp.hp | exact sepO hsp.hr | exact sepO hsp.hc | exact sepO hsp.pr | exact sepO hsp.pc | exact sepO hsp.rc | exact sepO hsp.hp.symm | exact sepO hsp.hr.symm | exact sepO hsp.hc.symm | exact sepO hsp.pr.symm | exact sepO hsp.pc.symm | exact sepO hsp.rc.symm | exact hsp.sh | exact hsp.sp | exact hsp.sr | exact hsp.sc | omega | (simp only [blk_some, hi1_some] at *; omega))
                refine wp_seq ?_
                refine rg ?_
                refine st (y_lss rfl rfl) ?_
                refine rg_end ?_
                refine n_then ?_
                refine wp_seq ?_
                refine cnd rfl (fun hc14 => ?_) (fun hc14 => ?_)
                ·
                  try simp only [decide_eq_true_eq, decide_eq_false_iff_not, Bool.not_eq_true', Bool.not_eq_false', Bool.and_eq_true, Bool.or_eq_true, Bool.or_eq_false_iff, Bool.cond_true_right, Bool.cond_false_right, Bool.cond_true_left, Bool.cond_false_left, ne_eq, Decidable.not_not, bne_iff_ne, beq_iff_eq, beq_eq_false_iff_ne, Bool.not_true, Bool.not_false] at hc14
                  have hsP := hRs (k : Int) (by omega) (by omega : (k : Int) < s.length)
                  have hVp := hRv (k : Int) (by omega) (by omega : (k : Int) < V.length)
                  have hPl := hPos.1
                  refine wp_skip ?_
                  refine n_then ?_
                  refine wp_seq ?_
                  refine wp_block ?_
                  refine wp_seq ?_
                  refine rg ?_
                  refine st (mvI rfl) ?_
                  refine st (asI rfl) ?_
                  refine rg_end ?_
                  refine n_then ?_
                  refine wp_seq ?_
                  refine rg ?_
                  refine st (mvI rfl) ?_
                  refine st (y_ixR Try.underlying78 sz4 rfl rfl rfl (by omega) (by omega)) ?_
                  refine st (y_le hA.sl na4 rfl (by omega) (by omega) rfl) ?_
                  refine rg_end ?_
                  refine n_then ?_
                  refine cnd rfl (fun hc15 => ?_) (fun hc15 => ?_)
                  ·
                    try simp only [decide_eq_true_eq, decide_eq_false_iff_not, Bool.not_eq_true', Bool.not_eq_false', Bool.and_eq_true, Bool.or_eq_true, Bool.or_eq_false_iff, Bool.cond_true_right, Bool.cond_false_right, Bool.cond_true_left, Bool.cond_false_left, ne_eq, Decidable.not_not, bne_iff_ne, beq_iff_eq, beq_eq_false_iff_ne, Bool.not_true, Bool.not_false] at hc15
                    obtain ⟨w1, w2⟩ := hAsk.yes _ (hsP.symm.trans hc15)
                    have hPos1 := hPos.put (v := el V (k : Int)) (by omega) w2 (by rw [hVp, w1])
                    refine rgD 8 (fun w_ => Ext w144 w_) (fun i => false) mixed (by kernel_rfl) ?_
                    intro w147 ho148 hs149
                    refine ⟨ho148, ?_⟩
                    have hx150 := ho148
                    refine tn rfl (fun _ hG => mvP rfl) ?_
                    refine tn rfl (fun _ hG => y_nil rfl) ?_
                    refine tn rfl (fun _ hG => y_fld fld67_1 rfl) ?_
                    refine tn rfl (fun _ hG => y_lb (hb.ext hG) na23 rfl rfl) ?_
                    refine tn rfl (fun _ hG => mvI rfl) ?_
                    refine tn rfl (fun _ hG => mvI rfl) ?_
                    refine tn rfl (fun _ hG => y_ixR Try.underlying79 sz3 rfl rfl rfl (by omega) (by omega)) ?_
                    refine tn rfl (fun _ hG => y_le (hV.ext hG).sl na3 rfl (by omega) (by omega) rfl) ?_
                    refine t_end ?_
                    have hz151 := hx150.size
                    replace hb := hb.ext hx150
                    replace hh := hh.ext hx150
                    replace hr := hr.ext hx150
                    replace hc_ := hc_.ext hx150
                    replace hf := hf.ext hx150
                    replace hL := hL.ext hx150
                    replace hE := hE.step hx150 (.inl (Nat.le_refl _))
                    replace hN := hN.ext hx150
                    replace hA := hA.ext hx150
                    replace hV := hV.ext hx150
                    replace hp := hp.ext hx150
                    replace hlp4 := hlp4.step hx150 (.inl (Nat.le_refl _))
                    refine st (y_ix hp.sl sl23 rfl (hPos.1.symm) rfl (by omega) (by omega)) ?_
                    refine sd0 (d_se (j := 0) (e' := el V (k : Int)) hp sz3 rfl rfl rfl (by omega) (by omega) (Nat.le_of_ble_eq_true rfl) rfl ?_)
                    intro w152 hs154 ho153 hp'
                    clear hp; have hp := hp'; clear hp'
                    have hz155 := ho153.size
                    replace hb := hb.out ho153 (by first | exact hsp.bh | exact hsp.bp | exact hsp.br | exact hsp.bc | exact sepO hsp.hp | exact sepO hsp.hr | exact sepO hsp.hc | exact sepO hsp.pr | exact sepO hsp.pc | exact sepO hsp.rc | exact sepO hsp.hp.symm | exact sepO hsp.hr.symm | exact sepO hsp.hc.symm | exact sepO hsp.pr.symm | exact sepO hsp.pc.symm | exact sepO hsp.rc.symm | exact hsp.sh | exact hsp.sp | exact hsp.sr | exact hsp.sc | omega | (simp only [blk_some, hi1_some] at *; omega))
                    replace hh := hh.out ho153 (by first | exact hsp.bh | exact hsp.bp | exact hsp.br | exact hsp.bc | exact sepO hsp.hp | exact sepO hsp.hr | exact sepO hsp.hc | exact sepO hsp.pr | exact sepO hsp.pc | exact sepO hsp.rc | exact sepO hsp.hp.symm | exact sepO hsp.hr.symm | exact sepO hsp.hc.symm | exact sepO hsp.pr.symm | exact sepO hsp.pc.symm | exact sepO hsp.rc.symm | exact hsp.sh | exact hsp.sp | exact hsp.sr | exact hsp.sc | omega | (simp only [blk_some, hi1_some] at *; omega))
                    replace hr := hr.out ho153 (by first | exact hsp.bh | exact hsp.bp | exact hsp.br | exact hsp.bc | exact sepO hsp.hp | exact sepO hsp.hr | exact sepO hsp.hc | exact sepO hsp.pr | exact sepO hsp.pc | exact sepO hsp.rc | exact sepO hsp.hp.symm | exact sepO hsp.hr.symm | exact sepO hsp.hc.symm | exact sepO hsp.pr.symm | exact sepO hsp.pc.symm | exact sepO hsp.rc.symm | exact hsp.sh | exact hsp.sp | exact hsp.sr | exact hsp.sc | omega | (simp only [blk_some, hi1_some] at *; omega))
                    replace hc_ := hc_.out ho153 (by first | exact hsp.bh | exact hsp.bp | exact hsp.br | exact hsp.bc | exact sepO hsp.hp | exact sepO hsp.hr | exact sepO hsp.hc | exact sepO hsp.pr | exact sepO hsp.pc | exact sepO hsp.rc | exact sepO hsp.hp.symm | exact sepO hsp.hr.symm | exact sepO hsp.hc.symm | exact sepO hsp.pr.symm | exact sepO hsp.pc.symm | exact sepO hsp.rc.symm | exact hsp.sh | exact hsp.sp | exact hsp.sr | exact hsp.sc | omega | (simp only [blk_some, hi1_some] at *; omega))
                    replace hf := hf.out ho153 (by first | exact hsp.bh | exact hsp.bp | exact hsp.br | exact hsp.bc | exact sepO hsp.hp | exact sepO hsp.hr | exact sepO hsp.hc | exact sepO hsp.pr | exact sepO hsp.pc | exact sepO hsp.rc | exact sepO hsp.hp.symm | exact sepO hsp.hr.symm | exact sepO hsp.hc.symm | exact sepO hsp.pr.symm | exact sepO hsp.pc.symm | exact sepO hsp.rc.symm | exact hsp.sh | exact hsp.sp | exact hsp.sr | exact hsp.sc | omega | (simp only [blk_some, hi1_some] at *; omega))
                    replace hL := hL.out ho153 (by first | exact hsp.bh | exact hsp.bp | exact hsp.br | exact hsp.bc | exact sepO hsp.hp | exact sepO hsp.hr | exact sepO hsp.hc | exact sepO hsp.pr | exact sepO hsp.pc | exact sepO hsp.rc | exact sepO hsp.hp.symm | exact sepO hsp.hr.symm | exact sepO hsp.hc.symm | exact sepO hsp.pr.symm | exact sepO hsp.pc.symm | exact sepO hsp.rc.symm | exact hsp.sh | exact hsp.sp | exact hsp.sr | exact hsp.sc | omega | (simp only [blk_some, hi1_some] at *; omega))
                    replace hE := hE.step ho153 (by first | exact hsp.bh | exact hsp.bp | exact hsp.br | exact hsp.bc | exact sepO hsp.hp | exact sepO hsp.hr | exact sepO hsp.hc | exact sepO hsp.pr | exact sepO hsp.pc | exact sepO hsp.rc | exact sepO hsp.hp.symm | exact sepO hsp.hr.symm | exact sepO hsp.hc.symm | exact sepO hsp.pr.symm | exact sepO hsp.pc.symm | exact sepO hsp.rc.symm | exact hsp.sh | exact hsp.sp | exact hsp.sr | exact hsp.sc | omega | (simp only [blk_some, hi1_some] at *; omega))
                    replace hN := hN.out ho153 (by first | exact hsp.bh | exact hsp.bp | exact hsp.br | exact hsp.bc | exact sepO hsp.hp | exact sepO hsp.hr | exact sepO hsp.hc | exact sepO hsp.pr | exact sepO hsp.pc | exact sepO hsp.rc | exact sepO hsp.hp.symm | exact sepO hsp.hr.symm | exact sepO hsp.hc.symm | exact sepO hsp.pr.symm | exact sepO hsp.pc.symm | exact sepO hsp.rc.symm | exact hsp.sh | exact hsp.sp | exact hsp.sr | exact hsp.sc | omega | (simp only [blk_some, hi1_some] at *; omega))
                    replace hA := hA.out ho153 (by first | exact hsp.bh | exact hsp.bp | exact hsp.br | exact hsp.bc | exact sepO hsp.hp | exact sepO hsp.hr | exact sepO hsp.hc | exact sepO hsp.pr | exact sepO hsp.pc | exact sepO hsp.rc | exact sepO hsp.hp.symm | exact sepO hsp.hr.symm | exact sepO hsp.hc.symm | exact sepO hsp.pr.symm | exact sepO hsp.pc.symm | exact sepO hsp.rc.symm | exact hsp.sh | exact hsp.sp | exact hsp.sr | exact hsp.sc | omega | (simp only [blk_some, hi1_some] at *; omega))
                    replace hV := hV.out ho153 (by first | exact hsp.bh | exact hsp.bp | exact hsp.br | exact hsp.bc | exact sepO hsp.hp | exact sepO hsp.hr | exact sepO hsp.hc | exact sepO hsp.pr | exact sepO hsp.pc | exact sepO hsp.rc | exact sepO hsp.hp.symm | exact sepO hsp.hr.symm | exact sepO hsp.hc.symm | exact sepO hsp.pr.symm | exact sepO hsp.pc.symm | exact sepO hsp.rc.symm | exact hsp.sh | exact hsp.sp | exact hsp.sr | exact hsp.sc | omega | (simp only [blk_some, hi1_some] at *; omega))
                    replace hlp4 := hlp4.step ho153 (by first | exact hsp.bh | exact hsp.bp | exact hsp.br | exact hsp.bc | exact sepO hsp.hp | exact sepO hsp.hr | exact sepO hsp.hc | exact sepO hsp.pr | exact sepO hsp.pc | exact sepO hsp.rc | exact sepO hsp.hp.symm | exact sepO hsp.hr.symm | exact sepO hsp.hc.symm | exact sepO hsp.pr.symm | exact sepO hsp.pc.symm | exact sepO hsp.rc.symm | exact hsp.sh | exact hsp.sp | exact hsp.sr | exact hsp.sc | omega | (simp only [blk_some, hi1_some] at *; omega))
                    refine rg_end ?_
                    refine n_blk ?_
                    refine n_then ?_
                    refine rg ?_
                    refine st (y_add rfl rfl (by omega)) ?_
                    refine st (mvI rfl) ?_
                    refine rg_end ?_
                    exact n_then ⟨(k + 1, _), _, rfl, same_lk rfl (same_h0), ⟨rfl, trivial⟩, ⟨hlp4, by omega, hPos1, hp⟩, by first | omega | (dsimp only; omega)⟩
                  ·
                    try simp only [decide_eq_true_eq, decide_eq_false_iff_not, Bool.not_eq_true', Bool.not_eq_false', Bool.and_eq_true, Bool.or_eq_true, Bool.or_eq_false_iff, Bool.cond_true_right, Bool.cond_false_right, Bool.cond_true_left, Bool.cond_false_left, ne_eq, Decidable.not_not, bne_iff_ne, beq_iff_eq, beq_eq_false_iff_ne, Bool.not_true, Bool.not_false] at hc15
                    have hPos1 := hPos.skip (hAsk.no _ (hsP.symm.trans hc15))
                    refine wp_skip ?_
                    refine n_blk ?_
                    refine n_then ?_
                    refine rg ?_
                    refine st (y_add rfl rfl (by omega)) ?_
                    refine st (mvI rfl) ?_
                    refine rg_end ?_
                    exact n_then ⟨(k + 1, _), _, rfl, same_lk rfl (same_h0), ⟨rfl, trivial⟩, ⟨hlp4, by omega, hPos1, hp⟩, by first | omega | (dsimp only; omega)⟩
                ·
                  try simp only [decide_eq_true_eq, decide_eq_false_iff_not, Bool.not_eq_true', Bool.not_eq_false', Bool.and_eq_true, Bool.or_eq_true, Bool.or_eq_false_iff, Bool.cond_true_right, Bool.cond_false_right, Bool.cond_true_left, Bool.cond_false_left, ne_eq, Decidable.not_not, bne_iff_ne, beq_iff_eq, beq_eq_false_iff_ne, Bool.not_true, Bool.not_false] at hc14
                  rw [show W = grW S l from hW] at hPos
                  have hP := hPos.done (t := t) hc14
                  refine wp_exit ?_
                  refine e_then (e_then (e_blk (?_)))
                  refine n_then ?_
                  refine wp_seq ?_
                  refine wp_seq ?_
                  refine rg ?_
                  refine st (mvS rfl) ?_
                  refine st (y_len Try.underlying46 rfl) ?_
                  refine st (mvI rfl) ?_
                  refine rg_end ?_
                  refine n_then ?_
                  refine wp_block ?_
                  refine lp (γ := Nat × List Int) [21, 198, 199, 200, 201, 202, 203, 204, 205, 206, 207, 208, 209, 210] (fun ⟨k, H⟩ => [(198, .int .i64 (k : Int))]) (fun ⟨k, H⟩ w_ => Out (blk ah) (hi1 ah) w144 w_ ∧ (k : Int) ≤ l.length ∧ HolTo S t (l.take k) H ∧ Ow 3 encI 1 lo hi w_ ah ch H) (fun ⟨k, H⟩ => l.length - k) (0, _) ⟨rfl, trivial⟩ ⟨Out.refl _ _ _, by simp, HolTo.start S t, hh⟩ ?_
                  rintro ⟨k, H⟩ hav_ w156 ⟨ho157, hk, hHol, hh⟩
                  have hlp5 := ho157
                  have hz158 := ho157.size
                  replace hb := hb.out ho157 (by first | exact hsp.bh | exact hsp.bp | exact hsp.br | exact hsp.bc | exact sepO hsp.hp | exact sepO hsp.hr | exact sepO hsp.hc | exact sepO hsp.pr | exact sepO hsp.pc | exact sepO hsp.rc | exact sepO hsp.hp.symm | exact sepO hsp.hr.symm | exact sepO hsp.hc.symm | exact sepO hsp.pr.symm | exact sepO hsp.pc.symm | exact sepO hsp.rc.symm | exact hsp.sh | exact hsp.sp | exact hsp.sr | exact hsp.sc | omega | (simp only [blk_some, hi1_some] at *; omega))
                  replace hr := hr.out ho157 (by first | exact hsp.bh | exact hsp.bp | exact hsp.br | exact hsp.bc | exact sepO hsp.hp | exact sepO hsp.hr | exact sepO hsp.hc | exact sepO hsp.pr | exact sepO hsp.pc | exact sepO hsp.rc | exact sepO hsp.hp.symm | exact sepO hsp.hr.symm | exact sepO hsp.hc.symm | exact sepO hsp.pr.symm | exact sepO hsp.pc.symm | exact sepO hsp.rc.symm | exact hsp.sh | exact hsp.sp | exact hsp.sr | exact hsp.sc | omega | (simp only [blk_some, hi1_some] at *; omega))
                  replace hc_ := hc_.out ho157 (by first | exact hsp.bh | exact hsp.bp | exact hsp.br | exact hsp.bc | exact sepO hsp.hp | exact sepO hsp.hr | exact sepO hsp.hc | exact sepO hsp.pr | exact sepO hsp.pc | exact sepO hsp.rc | exact sepO hsp.hp.symm | exact sepO hsp.hr.symm | exact sepO hsp.hc.symm | exact sepO hsp.pr.symm | exact sepO hsp.pc.symm | exact sepO hsp.rc.symm | exact hsp.sh | exact hsp.sp | exact hsp.sr | exact hsp.sc | omega | (simp only [blk_some, hi1_some] at *; omega))
                  replace hf := hf.out ho157 (by first | exact hsp.bh | exact hsp.bp | exact hsp.br | exact hsp.bc | exact sepO hsp.hp | exact sepO hsp.hr | exact sepO hsp.hc | exact sepO hsp.pr | exact sepO hsp.pc | exact sepO hsp.rc | exact sepO hsp.hp.symm | exact sepO hsp.hr.symm | exact sepO hsp.hc.symm | exact sepO hsp.pr.symm | exact sepO hsp.pc.symm | exact sepO hsp.rc.symm | exact hsp.sh | exact hsp.sp | exact hsp.sr | exact hsp.sc | omega | (simp only [blk_some, hi1_some] at *; omega))
                  replace hL := hL.out ho157 (by first | exact hsp.bh | exact hsp.bp | exact hsp.br | exact hsp.bc | exact sepO hsp.hp | exact sepO hsp.hr | exact sepO hsp.hc | exact sepO hsp.pr | exact sepO hsp.pc | exact sepO hsp.rc | exact sepO hsp.hp.symm | exact sepO hsp.hr.symm | exact sepO hsp.hc.symm | exact sepO hsp.pr.symm | exact sepO hsp.pc.symm | exact sepO hsp.rc.symm | exact hsp.sh | exact hsp.sp | exact hsp.sr | exact hsp.sc | omega | (simp only [blk_some, hi1_some] at *; omega))
                  replace hE := hE.step ho157 (by first | exact hsp.bh | exact hsp.bp | exact hsp.br | exact hsp.bc | exact sepO hsp.hp | exact sepO hsp.hr | exact sepO hsp.hc | exact sepO hsp.pr | exact sepO hsp.pc | exact sepO hsp.rc | exact sepO hsp.hp.symm | exact sepO hsp.hr.symm | exact sepO hsp.hc.symm | exact sepO hsp.pr.symm | exact sepO hsp.pc.symm | exact sepO hsp.rc.symm | exact hsp.sh | exact hsp.sp | exact hsp.sr | exact hsp.sc | omega | (simp only [blk_some, hi1_some] at *; omega))
                  replace hN := hN.out ho157 (by first | exact hsp.bh | exact hsp.bp | exact hsp.br | exact hsp.bc | exact sepO hsp.hp | exact sepO hsp.hr | exact sepO hsp.hc | exact sepO hsp.pr | exact sepO hsp.pc | exact sepO hsp.rc | exact sepO hsp.hp.symm | exact sepO hsp.hr.symm | exact sepO hsp.hc.symm | exact sepO hsp.pr.symm | exact sepO hsp.pc.symm | exact sepO hsp.rc.symm | exact hsp.sh | exact hsp.sp | exact hsp.sr | exact hsp.sc | omega | (simp only [blk_some, hi1_some] at *; omega))
                  replace hA := hA.out ho157 (by first | exact hsp.bh | exact hsp.bp | exact hsp.br | exact hsp.bc | exact sepO hsp.hp | exact sepO hsp.hr | exact sepO hsp.hc | exact sepO hsp.pr | exact sepO hsp.pc | exact sepO hsp.rc | exact sepO hsp.hp.symm | exact sepO hsp.hr.symm | exact sepO hsp.hc.symm | exact sepO hsp.pr.symm | exact sepO hsp.pc.symm | exact sepO hsp.rc.symm | exact hsp.sh | exact hsp.sp | exact hsp.sr | exact hsp.sc | omega | (simp only [blk_some, hi1_some] at *; omega))
                  replace hV := hV.out ho157 (by first | exact hsp.bh | exact hsp.bp | exact hsp.br | exact hsp.bc | exact sepO hsp.hp | exact sepO hsp.hr | exact sepO hsp.hc | exact sepO hsp.pr | exact sepO hsp.pc | exact sepO hsp.rc | exact sepO hsp.hp.symm | exact sepO hsp.hr.symm | exact sepO hsp.hc.symm | exact sepO hsp.pr.symm | exact sepO hsp.pc.symm | exact sepO hsp.rc.symm | exact hsp.sh | exact hsp.sp | exact hsp.sr | exact hsp.sc | omega | (simp only [blk_some, hi1_some] at *; omega))
                  replace hp := hp.out ho157 (by first | exact hsp.bh | exact hsp.bp | exact hsp.br | exact hsp.bc | exact sepO hsp.hp | exact sepO hsp.hr | exact sepO hsp.hc | exact sepO hsp.pr | exact sepO hsp.pc | exact sepO hsp.rc | exact sepO hsp.hp.symm | exact sepO hsp.hr.symm | exact sepO hsp.hc.symm | exact sepO hsp.pr.symm | exact sepO hsp.pc.symm | exact sepO hsp.rc.symm | exact hsp.sh | exact hsp.sp | exact hsp.sr | exact hsp.sc | omega | (simp only [blk_some, hi1_some] at *; omega))
                  refine wp_seq ?_
                  refine rg ?_
                  refine st (y_lss rfl rfl) ?_
                  refine rg_end ?_
                  refine n_then ?_
                  refine wp_seq ?_
                  refine cnd rfl (fun hc16 => ?_) (fun hc16 => ?_)
                  ·
                    try simp only [decide_eq_true_eq, decide_eq_false_iff_not, Bool.not_eq_true', Bool.not_eq_false', Bool.and_eq_true, Bool.or_eq_true, Bool.or_eq_false_iff, Bool.cond_true_right, Bool.cond_false_right, Bool.cond_true_left, Bool.cond_false_left, ne_eq, Decidable.not_not, bne_iff_ne, beq_iff_eq, beq_eq_false_iff_ne, Bool.not_true, Bool.not_false] at hc16
                    have hkl := hlk _ (el_mem (l := l) (i := (k : Int)) (by omega) hc16)
                    have hHl := hHol.1
                    have hHol1 := hHol.add (k := el l (k : Int)) hkl.1 hkl.2.1
                    rw [← take_succ_el hc16] at hHol1
                    refine wp_skip ?_
                    refine n_then ?_
                    refine wp_seq ?_
                    refine wp_block ?_
                    refine wp_seq ?_
                    refine rg ?_
                    refine st (y_ix hL sl46 rfl (rfl) rfl (by omega) (by omega)) ?_
                    refine st (y_lw hL agg45 rfl (by omega) (by omega)) ?_
                    refine sd (d_allocA zer45 ?_)
                    intro b21 w159 hbb21 hs161 ho160 hb21
                    have hz162 := ho160.size
                    replace hb := hb.ext ho160
                    replace hr := hr.ext ho160
                    replace hc_ := hc_.ext ho160
                    replace hf := hf.ext ho160
                    replace hL := hL.ext ho160
                    replace hE := hE.step ho160 (.inl (Nat.le_refl _))
                    replace hN := hN.ext ho160
                    replace hA := hA.ext ho160
                    replace hV := hV.ext ho160
                    replace hp := hp.ext ho160
                    replace hh := hh.ext ho160
                    replace hlp5 := hlp5.step ho160 (.inl (Nat.le_refl _))
                    refine sd0 (d_stN hb21 rfl rfl sz45 rfl rfl ?_)
                    intro w163 hs165 ho164 hb21'
                    clear hb21; have hb21 := hb21'; clear hb21'
                    have hz166 := ho164.size
                    replace hb := hb.out ho164 (by first | exact hsp.bh | exact hsp.bp | exact hsp.br | exact hsp.bc | exact sepO hsp.hp | exact sepO hsp.hr | exact sepO hsp.hc | exact sepO hsp.pr | exact sepO hsp.pc | exact sepO hsp.rc | exact sepO hsp.hp.symm | exact sepO hsp.hr.symm | exact sepO hsp.hc.symm | exact sepO hsp.pr.symm | exact sepO hsp.pc.symm | exact sepO hsp.rc.symm | exact hsp.sh | exact hsp.sp | exact hsp.sr | exact hsp.sc | omega | (simp only [blk_some, hi1_some] at *; omega))
                    replace hr := hr.out ho164 (by first | exact hsp.bh | exact hsp.bp | exact hsp.br | exact hsp.bc | exact sepO hsp.hp | exact sepO hsp.hr | exact sepO hsp.hc | exact sepO hsp.pr | exact sepO hsp.pc | exact sepO hsp.rc | exact sepO hsp.hp.symm | exact sepO hsp.hr.symm | exact sepO hsp.hc.symm | exact sepO hsp.pr.symm | exact sepO hsp.pc.symm | exact sepO hsp.rc.symm | exact hsp.sh | exact hsp.sp | exact hsp.sr | exact hsp.sc | omega | (simp only [blk_some, hi1_some] at *; omega))
                    replace hc_ := hc_.out ho164 (by first | exact hsp.bh | exact hsp.bp | exact hsp.br | exact hsp.bc | exact sepO hsp.hp | exact sepO hsp.hr | exact sepO hsp.hc | exact sepO hsp.pr | exact sepO hsp.pc | exact sepO hsp.rc | exact sepO hsp.hp.symm | exact sepO hsp.hr.symm | exact sepO hsp.hc.symm | exact sepO hsp.pr.symm | exact sepO hsp.pc.symm | exact sepO hsp.rc.symm | exact hsp.sh | exact hsp.sp | exact hsp.sr | exact hsp.sc | omega | (simp only [blk_some, hi1_some] at *; omega))
                    replace hf := hf.out ho164 (by first | exact hsp.bh | exact hsp.bp | exact hsp.br | exact hsp.bc | exact sepO hsp.hp | exact sepO hsp.hr | exact sepO hsp.hc | exact sepO hsp.pr | exact sepO hsp.pc | exact sepO hsp.rc | exact sepO hsp.hp.symm | exact sepO hsp.hr.symm | exact sepO hsp.hc.symm | exact sepO hsp.pr.symm | exact sepO hsp.pc.symm | exact sepO hsp.rc.symm | exact hsp.sh | exact hsp.sp | exact hsp.sr | exact hsp.sc | omega | (simp only [blk_some, hi1_some] at *; omega))
                    replace hL := hL.out ho164 (by first | exact hsp.bh | exact hsp.bp | exact hsp.br | exact hsp.bc | exact sepO hsp.hp | exact sepO hsp.hr | exact sepO hsp.hc | exact sepO hsp.pr | exact sepO hsp.pc | exact sepO hsp.rc | exact sepO hsp.hp.symm | exact sepO hsp.hr.symm | exact sepO hsp.hc.symm | exact sepO hsp.pr.symm | exact sepO hsp.pc.symm | exact sepO hsp.rc.symm | exact hsp.sh | exact hsp.sp | exact hsp.sr | exact hsp.sc | omega | (simp only [blk_some, hi1_some] at *; omega))
                    replace hE := hE.step ho164 (by first | exact hsp.bh | exact hsp.bp | exact hsp.br | exact hsp.bc | exact sepO hsp.hp | exact sepO hsp.hr | exact sepO hsp.hc | exact sepO hsp.pr | exact sepO hsp.pc | exact sepO hsp.rc | exact sepO hsp.hp.symm | exact sepO hsp.hr.symm | exact sepO hsp.hc.symm | exact sepO hsp.pr.symm | exact sepO hsp.pc.symm | exact sepO hsp.rc.symm | exact hsp.sh | exact hsp.sp | exact hsp.sr | exact hsp.sc | omega | (simp only [blk_some, hi1_some] at *; omega))
                    replace hN := hN.out ho164 (by first | exact hsp.bh | exact hsp.bp | exact hsp.br | exact hsp.bc | exact sepO hsp.hp | exact sepO hsp.hr | exact sepO hsp.hc | exact sepO hsp.pr | exact sepO hsp.pc | exact sepO hsp.rc | exact sepO hsp.hp.symm | exact sepO hsp.hr.symm | exact sepO hsp.hc.symm | exact sepO hsp.pr.symm | exact sepO hsp.pc.symm | exact sepO hsp.rc.symm | exact hsp.sh | exact hsp.sp | exact hsp.sr | exact hsp.sc | omega | (simp only [blk_some, hi1_some] at *; omega))
                    replace hA := hA.out ho164 (by first | exact hsp.bh | exact hsp.bp | exact hsp.br | exact hsp.bc | exact sepO hsp.hp | exact sepO hsp.hr | exact sepO hsp.hc | exact sepO hsp.pr | exact sepO hsp.pc | exact sepO hsp.rc | exact sepO hsp.hp.symm | exact sepO hsp.hr.symm | exact sepO hsp.hc.symm | exact sepO hsp.pr.symm | exact sepO hsp.pc.symm | exact sepO hsp.rc.symm | exact hsp.sh | exact hsp.sp | exact hsp.sr | exact hsp.sc | omega | (simp only [blk_some, hi1_some] at *; omega))
                    replace hV := hV.out ho164 (by first | exact hsp.bh | exact hsp.bp | exact hsp.br | exact hsp.bc | exact sepO hsp.hp | exact sepO hsp.hr | exact sepO hsp.hc | exact sepO hsp.pr | exact sepO hsp.pc | exact sepO hsp.rc | exact sepO hsp.hp.symm | exact sepO hsp.hr.symm | exact sepO hsp.hc.symm | exact sepO hsp.pr.symm | exact sepO hsp.pc.symm | exact sepO hsp.rc.symm | exact hsp.sh | exact hsp.sp | exact hsp.sr | exact hsp.sc | omega | (simp only [blk_some, hi1_some] at *; omega))
                    replace hp := hp.out ho164 (by first | exact hsp.bh | exact hsp.bp | exact hsp.br | exact hsp.bc | exact sepO hsp.hp | exact sepO hsp.hr | exact sepO hsp.hc | exact sepO hsp.pr | exact sepO hsp.pc | exact sepO hsp.rc | exact sepO hsp.hp.symm | exact sepO hsp.hr.symm | exact sepO hsp.hc.symm | exact sepO hsp.pr.symm | exact sepO hsp.pc.symm | exact sepO hsp.rc.symm | exact hsp.sh | exact hsp.sp | exact hsp.sr | exact hsp.sc | omega | (simp only [blk_some, hi1_some] at *; omega))
                    replace hh := hh.out ho164 (by first | exact hsp.bh | exact hsp.bp | exact hsp.br | exact hsp.bc | exact sepO hsp.hp | exact sepO hsp.hr | exact sepO hsp.hc | exact sepO hsp.pr | exact sepO hsp.pc | exact sepO hsp.rc | exact sepO hsp.hp.symm | exact sepO hsp.hr.symm | exact sepO hsp.hc.symm | exact sepO hsp.pr.symm | exact sepO hsp.pc.symm | exact sepO hsp.rc.symm | exact hsp.sh | exact hsp.sp | exact hsp.sr | exact hsp.sc | omega | (simp only [blk_some, hi1_some] at *; omega))
                    replace hlp5 := hlp5.step ho164 (by first | exact hsp.bh | exact hsp.bp | exact hsp.br | exact hsp.bc | exact sepO hsp.hp | exact sepO hsp.hr | exact sepO hsp.hc | exact sepO hsp.pr | exact sepO hsp.pc | exact sepO hsp.rc | exact sepO hsp.hp.symm | exact sepO hsp.hr.symm | exact sepO hsp.hc.symm | exact sepO hsp.pr.symm | exact sepO hsp.pc.symm | exact sepO hsp.rc.symm | exact hsp.sh | exact hsp.sp | exact hsp.sr | exact hsp.sc | omega | (simp only [blk_some, hi1_some] at *; omega))
                    refine rg_end ?_
                    refine n_then ?_
                    refine rgD 7 (fun w_ => Ext w163 w_) (fun i => false) mixed (by kernel_rfl) ?_
                    intro w167 ho168 hs169
                    refine ⟨ho168, ?_⟩
                    have hx170 := ho168
                    refine tn rfl (fun _ hG => mvP rfl) ?_
                    refine tn rfl (fun _ hG => y_nil rfl) ?_
                    refine tn rfl (fun _ hG => y_fld fld67_0 rfl) ?_
                    refine tn rfl (fun _ hG => y_lb (hb.ext hG) na23 rfl rfl) ?_
                    refine tn rfl (fun _ hG => y_fld fld45_0 rfl) ?_
                    refine tn rfl (fun _ hG => y_lb (hb21.ext hG) na3 rfl rfl) ?_
                    refine tn rfl (fun _ hG => mvI rfl) ?_
                    refine t_end ?_
                    have hz171 := hx170.size
                    replace hb := hb.ext hx170
                    replace hr := hr.ext hx170
                    replace hc_ := hc_.ext hx170
                    replace hf := hf.ext hx170
                    replace hL := hL.ext hx170
                    replace hE := hE.step hx170 (.inl (Nat.le_refl _))
                    replace hN := hN.ext hx170
                    replace hA := hA.ext hx170
                    replace hV := hV.ext hx170
                    replace hp := hp.ext hx170
                    replace hh := hh.ext hx170
                    replace hlp5 := hlp5.step hx170 (.inl (Nat.le_refl _))
                    replace hb21 := hb21.ext hx170
                    refine st (y_ix hh.sl sl23 rfl (hHol.1.symm) rfl (by omega) (by omega)) ?_
                    refine sd0 (d_se (j := 0) (e' := t) hh sz3 rfl rfl rfl (by omega) (by omega) (Nat.le_of_ble_eq_true rfl) rfl ?_)
                    intro w172 hs174 ho173 hh'
                    clear hh; have hh := hh'; clear hh'
                    have hz175 := ho173.size
                    replace hb := hb.out ho173 (by first | exact hsp.bh | exact hsp.bp | exact hsp.br | exact hsp.bc | exact sepO hsp.hp | exact sepO hsp.hr | exact sepO hsp.hc | exact sepO hsp.pr | exact sepO hsp.pc | exact sepO hsp.rc | exact sepO hsp.hp.symm | exact sepO hsp.hr.symm | exact sepO hsp.hc.symm | exact sepO hsp.pr.symm | exact sepO hsp.pc.symm | exact sepO hsp.rc.symm | exact hsp.sh | exact hsp.sp | exact hsp.sr | exact hsp.sc | omega | (simp only [blk_some, hi1_some] at *; omega))
                    replace hr := hr.out ho173 (by first | exact hsp.bh | exact hsp.bp | exact hsp.br | exact hsp.bc | exact sepO hsp.hp | exact sepO hsp.hr | exact sepO hsp.hc | exact sepO hsp.pr | exact sepO hsp.pc | exact sepO hsp.rc | exact sepO hsp.hp.symm | exact sepO hsp.hr.symm | exact sepO hsp.hc.symm | exact sepO hsp.pr.symm | exact sepO hsp.pc.symm | exact sepO hsp.rc.symm | exact hsp.sh | exact hsp.sp | exact hsp.sr | exact hsp.sc | omega | (simp only [blk_some, hi1_some] at *; omega))
                    replace hc_ := hc_.out ho173 (by first | exact hsp.bh | exact hsp.bp | exact hsp.br | exact hsp.bc | exact sepO hsp.hp | exact sepO hsp.hr | exact sepO hsp.hc | exact sepO hsp.pr | exact sepO hsp.pc | exact sepO hsp.rc | exact sepO hsp.hp.symm | exact sepO hsp.hr.symm | exact sepO hsp.hc.symm | exact sepO hsp.pr.symm | exact sepO hsp.pc.symm | exact sepO hsp.rc.symm | exact hsp.sh | exact hsp.sp | exact hsp.sr | exact hsp.sc | omega | (simp only [blk_some, hi1_some] at *; omega))
                    replace hf := hf.out ho173 (by first | exact hsp.bh | exact hsp.bp | exact hsp.br | exact hsp.bc | exact sepO hsp.hp | exact sepO hsp.hr | exact sepO hsp.hc | exact sepO hsp.pr | exact sepO hsp.pc | exact sepO hsp.rc | exact sepO hsp.hp.symm | exact sepO hsp.hr.symm | exact sepO hsp.hc.symm | exact sepO hsp.pr.symm | exact sepO hsp.pc.symm | exact sepO hsp.rc.symm | exact hsp.sh | exact hsp.sp | exact hsp.sr | exact hsp.sc | omega | (simp only [blk_some, hi1_some] at *; omega))
                    replace hL := hL.out ho173 (by first | exact hsp.bh | exact hsp.bp | exact hsp.br | exact hsp.bc | exact sepO hsp.hp | exact sepO hsp.hr | exact sepO hsp.hc | exact sepO hsp.pr | exact sepO hsp.pc | exact sepO hsp.rc | exact sepO hsp.hp.symm | exact sepO hsp.hr.symm | exact sepO hsp.hc.symm | exact sepO hsp.pr.symm | exact sepO hsp.pc.symm | exact sepO hsp.rc.symm | exact hsp.sh | exact hsp.sp | exact hsp.sr | exact hsp.sc | omega | (simp only [blk_some, hi1_some] at *; omega))
                    replace hE := hE.step ho173 (by first | exact hsp.bh | exact hsp.bp | exact hsp.br | exact hsp.bc | exact sepO hsp.hp | exact sepO hsp.hr | exact sepO hsp.hc | exact sepO hsp.pr | exact sepO hsp.pc | exact sepO hsp.rc | exact sepO hsp.hp.symm | exact sepO hsp.hr.symm | exact sepO hsp.hc.symm | exact sepO hsp.pr.symm | exact sepO hsp.pc.symm | exact sepO hsp.rc.symm | exact hsp.sh | exact hsp.sp | exact hsp.sr | exact hsp.sc | omega | (simp only [blk_some, hi1_some] at *; omega))
                    replace hN := hN.out ho173 (by first | exact hsp.bh | exact hsp.bp | exact hsp.br | exact hsp.bc | exact sepO hsp.hp | exact sepO hsp.hr | exact sepO hsp.hc | exact sepO hsp.pr | exact sepO hsp.pc | exact sepO hsp.rc | exact sepO hsp.hp.symm | exact sepO hsp.hr.symm | exact sepO hsp.hc.symm | exact sepO hsp.pr.symm | exact sepO hsp.pc.symm | exact sepO hsp.rc.symm | exact hsp.sh | exact hsp.sp | exact hsp.sr | exact hsp.sc | omega | (simp only [blk_some, hi1_some] at *; omega))
                    replace hA := hA.out ho173 (by first | exact hsp.bh | exact hsp.bp | exact hsp.br | exact hsp.bc | exact sepO hsp.hp | exact sepO hsp.hr | exact sepO hsp.hc | exact sepO hsp.pr | exact sepO hsp.pc | exact sepO hsp.rc | exact sepO hsp.hp.symm | exact sepO hsp.hr.symm | exact sepO hsp.hc.symm | exact sepO hsp.pr.symm | exact sepO hsp.pc.symm | exact sepO hsp.rc.symm | exact hsp.sh | exact hsp.sp | exact hsp.sr | exact hsp.sc | omega | (simp only [blk_some, hi1_some] at *; omega))
                    replace hV := hV.out ho173 (by first | exact hsp.bh | exact hsp.bp | exact hsp.br | exact hsp.bc | exact sepO hsp.hp | exact sepO hsp.hr | exact sepO hsp.hc | exact sepO hsp.pr | exact sepO hsp.pc | exact sepO hsp.rc | exact sepO hsp.hp.symm | exact sepO hsp.hr.symm | exact sepO hsp.hc.symm | exact sepO hsp.pr.symm | exact sepO hsp.pc.symm | exact sepO hsp.rc.symm | exact hsp.sh | exact hsp.sp | exact hsp.sr | exact hsp.sc | omega | (simp only [blk_some, hi1_some] at *; omega))
                    replace hp := hp.out ho173 (by first | exact hsp.bh | exact hsp.bp | exact hsp.br | exact hsp.bc | exact sepO hsp.hp | exact sepO hsp.hr | exact sepO hsp.hc | exact sepO hsp.pr | exact sepO hsp.pc | exact sepO hsp.rc | exact sepO hsp.hp.symm | exact sepO hsp.hr.symm | exact sepO hsp.hc.symm | exact sepO hsp.pr.symm | exact sepO hsp.pc.symm | exact sepO hsp.rc.symm | exact hsp.sh | exact hsp.sp | exact hsp.sr | exact hsp.sc | omega | (simp only [blk_some, hi1_some] at *; omega))
                    replace hlp5 := hlp5.step ho173 (by first | exact hsp.bh | exact hsp.bp | exact hsp.br | exact hsp.bc | exact sepO hsp.hp | exact sepO hsp.hr | exact sepO hsp.hc | exact sepO hsp.pr | exact sepO hsp.pc | exact sepO hsp.rc | exact sepO hsp.hp.symm | exact sepO hsp.hr.symm | exact sepO hsp.hc.symm | exact sepO hsp.pr.symm | exact sepO hsp.pc.symm | exact sepO hsp.rc.symm | exact hsp.sh | exact hsp.sp | exact hsp.sr | exact hsp.sc | omega | (simp only [blk_some, hi1_some] at *; omega))
                    replace hb21 := hb21.out ho173 (by first | exact hsp.bh | exact hsp.bp | exact hsp.br | exact hsp.bc | exact sepO hsp.hp | exact sepO hsp.hr | exact sepO hsp.hc | exact sepO hsp.pr | exact sepO hsp.pc | exact sepO hsp.rc | exact sepO hsp.hp.symm | exact sepO hsp.hr.symm | exact sepO hsp.hc.symm | exact sepO hsp.pr.symm | exact sepO hsp.pc.symm | exact sepO hsp.rc.symm | exact hsp.sh | exact hsp.sp | exact hsp.sr | exact hsp.sc | omega | (simp only [blk_some, hi1_some] at *; omega))
                    refine rg_end ?_
                    refine n_blk ?_
                    refine n_then ?_
                    refine rg ?_
                    refine st (y_add rfl rfl (by omega)) ?_
                    refine st (mvI rfl) ?_
                    refine rg_end ?_
                    exact n_then ⟨(k + 1, _), _, rfl, same_lk rfl (same_h0), ⟨rfl, trivial⟩, ⟨hlp5, by omega, hHol1, hh⟩, by first | omega | (dsimp only; omega)⟩
                  ·
                    try simp only [decide_eq_true_eq, decide_eq_false_iff_not, Bool.not_eq_true', Bool.not_eq_false', Bool.and_eq_true, Bool.or_eq_true, Bool.or_eq_false_iff, Bool.cond_true_right, Bool.cond_false_right, Bool.cond_true_left, Bool.cond_false_left, ne_eq, Decidable.not_not, bne_iff_ne, beq_iff_eq, beq_eq_false_iff_ne, Bool.not_true, Bool.not_false] at hc16
                    rw [take_end hc16] at hHol
                    have hH := hHol.done
                    refine wp_exit ?_
                    refine e_then (e_then (e_blk (?_)))
                    refine n_then ?_
                    refine wp_seq ?_
                    refine rg ?_
                    refine st (asI rfl) ?_
                    refine rg_end ?_
                    refine n_then ?_
                    refine wp_ret ?_
                    refine ret1 (v := (.int .i64 _)) Try.results29 rfl ?_
                    exact ⟨vi he.symm, by rw [grS_ok he]; exact rlk_of hb hh hp hr hc_ hf hl2 hh2 hlb hbh (by omega) hsp (grantR_len _ _ _) hH hP grantR_re grantR_cl rfl, hE⟩
end Go.Proofs.Ytciljdhihnnfiaa
