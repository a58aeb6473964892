/-
  Walks of the functions, printed by a program out of the code and the loops' relations.
-/
import Derived.Test.YteicgnmggkhlbaaWkD
import Derived.Test.YteicgnmggkhlbaaProg
import Derived.KernelRfl
import Derived.Test.YteicgnmggkhlbaaP22
namespace Go.Proofs.Yteicgnmggkhlbaa
open Go.Wk Go.RowKit
set_option linter.unusedVariables false
set_option linter.unusedSimpArgs false
theorem sr_len3 {rows : List Pw} {at_ l : List Int} {B k n e : Int} (hck : CkR rows at_ k) (h : (l, n, e) = srF rows at_ B k) : l.length ≤ 650 := by
  by_cases c : k = 0
  · rw [c] at hck
    obtain ⟨h1, h2, _⟩ := hck.ok
    exact sr_len2 h1 h2 h
  · unfold srF at h
    rw [if_pos c] at h
    have : l = [] := congrArg Prod.fst h
    rw [this]; simp

set_option maxHeartbeats 4000000 in
set_option maxRecDepth 100000 in
theorem law36_DeadlockRaw_ok (rows0 : List Pw) (a0 : Option Addr) (c0 : Nat) (a1 : Option Addr) (c1 : Nat) (l1 : List Int) (a2 : Option Addr) (c2 : Nat) (l2 : List Int) (x3 x4 : Int) (w : World) (hP0 : PIn 0 w.heap.size w a0 rows0) (hpn0 : (rows0.length : Int) ≤ 9223372036854775807) (hln0 : ∀ r ∈ rows0, (r.st.length : Int) ≤ 9223372036854775807 ∧ ∀ s ∈ r.st, (s.pts.length : Int) ≤ 9223372036854775807) (hL1 : Ints 0 w.heap.size w a1 l1) (hl1 : (l1.length : Int) ≤ 9223372036854775807) (hL2 : Ints 0 w.heap.size w a2 l2) (hl2 : (l2.length : Int) ≤ 9223372036854775807) : Cal Try.prog 11 [.slice a0 rows0.length c0, .slice a1 l1.length c1, .slice a2 l2.length c2, .int .i64 x3, .int .i64 x4] w (fun v w' => v = .bool true ∧ Ext w w') := by
  have hE : Out 0 0 w w := Out.refl _ _ w
  refine enter Try.func11 rfl Try.ntmps11 rfl ?_
  refine wp_seq ?_
  refine rg ?_
  refine st (asB rfl) ?_
  refine rg_end ?_
  refine n_then ?_
  refine wp_seq ?_
  refine rg ?_
  refine st (mvS rfl) ?_
  refine sc cl13 (keep2_Paths_ok _ _ _ _ _ _ hL1 hl1) rfl ?_
  rintro v5 w1 ⟨rows, ap, cp, rfl, hsm, hcp, hP, ho2⟩
  have hva := hsm.va
  have hn3 := hsm.n3
  have hn1 := hsm.n1
  have hln := sm_len hsm
  have hz6 := ho2.size
  replace hP0 := hP0.ext ho2
  replace hL1 := hL1.ext ho2
  replace hL2 := hL2.ext ho2
  replace hE := hE.step ho2 (.inl (Nat.le_refl _))
  refine st (asS rfl) ?_
  refine rg_end ?_
  refine n_then ?_
  refine wp_seq ?_
  refine rg ?_
  refine st (mvS rfl) ?_
  refine st (mvS rfl) ?_
  refine st (mvI rfl) ?_
  refine sc cl17 (dead_Search_ok rows _ _ _ _ l2 _ _ _ _ x4 _ hP (by omega) hL2 hln (by omega)) rfl ?_
  rintro v11 w7 ⟨ad1, cc1, s1, n1, e1, k1, rfl, hck1, hsr1, hO1, ho8⟩
  have hs1l := sr_len3 hck1 hsr1
  have hz12 := ho8.size
  replace hP0 := hP0.ext ho8
  replace hL1 := hL1.ext ho8
  replace hL2 := hL2.ext ho8
  replace hE := hE.step ho8 (.inl (Nat.le_refl _))
  replace hP := hP.ext ho8
  refine st (mvT rfl) ?_
  refine st (y_ext rfl rfl) ?_
  refine st (y_ext rfl rfl) ?_
  refine st (y_ext rfl rfl) ?_
  refine st (asS rfl) ?_
  refine st (asI rfl) ?_
  refine st (asI rfl) ?_
  refine rg_end ?_
  refine n_then ?_
  refine wp_seq ?_
  refine rg ?_
  refine st (mvS rfl) ?_
  refine st (mvS rfl) ?_
  refine st (mvI rfl) ?_
  refine sc cl29 (ref35_Search_ok rows _ _ _ _ l2 _ _ _ _ x4 _ hP (by omega) hL2 hln (by omega)) rfl ?_
  rintro v17 w13 ⟨ad2, cc2, s2, n2, e2, k2, rfl, hck2, hsr2, hO2, ho14⟩
  rw [hck1.uniq hck2, ← hsr2] at hsr1
  have q1 : s1 = s2 := congrArg Prod.fst hsr1
  have q2 : n1 = n2 := congrArg (fun q => q.2.1) hsr1
  have q3 : e1 = e2 := congrArg (fun q => q.2.2) hsr1
  have hz18 := ho14.size
  replace hP0 := hP0.ext ho14
  replace hL1 := hL1.ext ho14
  replace hL2 := hL2.ext ho14
  replace hE := hE.step ho14 (.inl (Nat.le_refl _))
  replace hP := hP.ext ho14
  replace hO1 := hO1.ext ho14
  refine st (mvT rfl) ?_
  refine st (y_ext rfl rfl) ?_
  refine st (y_ext rfl rfl) ?_
  refine st (y_ext rfl rfl) ?_
  refine st (asS rfl) ?_
  refine st (asI rfl) ?_
  refine st (asI rfl) ?_
  refine rg_end ?_
  refine n_then ?_
  refine wp_seq ?_
  refine rg ?_
  refine st (mvS rfl) ?_
  refine st (mvS rfl) ?_
  refine st (mvI rfl) ?_
  refine st (mvI rfl) ?_
  refine sc cl24 (dead_Admit_ok rows _ _ _ _ l2 _ _ _ _ x3 x4 _ hP (by omega) hL2 hln (by omega)) rfl ?_
  rintro v23 w19 ⟨n3, e3, k3, rfl, hck3, had3, ho20⟩
  have hz24 := ho20.size
  replace hP0 := hP0.ext ho20
  replace hL1 := hL1.ext ho20
  replace hL2 := hL2.ext ho20
  replace hE := hE.step ho20 (.inl (Nat.le_refl _))
  replace hP := hP.ext ho20
  replace hO1 := hO1.ext ho20
  replace hO2 := hO2.ext ho20
  refine st (mvT rfl) ?_
  refine st (y_ext rfl rfl) ?_
  refine st (y_ext rfl rfl) ?_
  refine st (asI rfl) ?_
  refine st (asI rfl) ?_
  refine rg_end ?_
  refine n_then ?_
  refine wp_seq ?_
  refine rg ?_
  refine st (mvS rfl) ?_
  refine st (mvS rfl) ?_
  refine st (mvI rfl) ?_
  refine st (mvI rfl) ?_
  refine sc cl30 (ref35_Admit_ok rows _ _ _ _ l2 _ _ _ _ x3 x4 _ hP (by omega) hL2 hln (by omega)) rfl ?_
  rintro v29 w25 ⟨n4, e4, k4, rfl, hck4, had4, ho26⟩
  rw [hck3.uniq hck4, ← had4] at had3
  have q4 : n3 = n4 := congrArg Prod.fst had3
  have q5 : e3 = e4 := congrArg Prod.snd had3
  have hz30 := ho26.size
  replace hP0 := hP0.ext ho26
  replace hL1 := hL1.ext ho26
  replace hL2 := hL2.ext ho26
  replace hE := hE.step ho26 (.inl (Nat.le_refl _))
  replace hP := hP.ext ho26
  replace hO1 := hO1.ext ho26
  replace hO2 := hO2.ext ho26
  refine st (mvT rfl) ?_
  refine st (y_ext rfl rfl) ?_
  refine st (y_ext rfl rfl) ?_
  refine st (asI rfl) ?_
  refine st (asI rfl) ?_
  refine rg_end ?_
  refine n_then ?_
  refine wp_seq ?_
  refine wp_seq ?_
  refine rg ?_
  refine st (mvS rfl) ?_
  refine st (mvS rfl) ?_
  refine sc cl31 (dead_Check_ok rows _ _ _ _ l2 _ _ _ _ _ hP (by omega) hL2 hln (by omega)) rfl ?_
  rintro v35 w31 ⟨k5, rfl, hck5, ho32⟩
  have hz36 := ho32.size
  replace hP0 := hP0.ext ho32
  replace hL1 := hL1.ext ho32
  replace hL2 := hL2.ext ho32
  replace hE := hE.step ho32 (.inl (Nat.le_refl _))
  replace hP := hP.ext ho32
  replace hO1 := hO1.ext ho32
  replace hO2 := hO2.ext ho32
  refine st (mvS rfl) ?_
  refine st (mvS rfl) ?_
  refine sc cl15 (ref35_CheckState_ok rows _ _ _ _ l2 _ _ _ _ _ hP (by omega) hL2 hln (by omega)) rfl ?_
  rintro v41 w37 ⟨k6, rfl, hck6, ho38⟩
  have q6 := hck5.uniq hck6
  have hz42 := ho38.size
  replace hP0 := hP0.ext ho38
  replace hL1 := hL1.ext ho38
  replace hL2 := hL2.ext ho38
  replace hE := hE.step ho38 (.inl (Nat.le_refl _))
  replace hP := hP.ext ho38
  replace hO1 := hO1.ext ho38
  replace hO2 := hO2.ext ho38
  refine st (y_neq rfl rfl) ?_
  refine st (mvB rfl) ?_
  refine gspL 63 rfl (fun hg43 => ?_) (fun hg43 => ?_)
  ·
    have hg43n := hg43; try simp only [decide_eq_true_eq, decide_eq_false_iff_not, Bool.not_eq_true', Bool.not_eq_false', Bool.and_eq_true, Bool.or_eq_true, Bool.or_eq_false_iff, Bool.cond_true_right, Bool.cond_false_right, Bool.cond_true_left, Bool.cond_false_left, ne_eq, Decidable.not_not, bne_iff_ne, beq_iff_eq, beq_eq_false_iff_ne, Bool.not_true, Bool.not_false] at hg43n
    exfalso; omega
  ·
    have hg43n := hg43; try simp only [decide_eq_true_eq, decide_eq_false_iff_not, Bool.not_eq_true', Bool.not_eq_false', Bool.and_eq_true, Bool.or_eq_true, Bool.or_eq_false_iff, Bool.cond_true_right, Bool.cond_false_right, Bool.cond_true_left, Bool.cond_false_left, ne_eq, Decidable.not_not, bne_iff_ne, beq_iff_eq, beq_eq_false_iff_ne, Bool.not_true, Bool.not_false] at hg43n
    refine stg rfl rfl hg43 (mvS rfl) ?_
    refine stg rfl rfl hg43 (mvS rfl) ?_
    refine scg rfl rfl hg43 cl28 (keep_Same_int_ok s1 s2 _ _ _ _ _ _ _ _ _ (Ow.sl hO1) (Ow.sl hO2) (by omega)) rfl ?_
    rintro v48 w44 ⟨rfl, ho45⟩
    have hz49 := ho45.size
    replace hP0 := hP0.ext ho45
    replace hL1 := hL1.ext ho45
    replace hL2 := hL2.ext ho45
    replace hE := hE.step ho45 (.inl (Nat.le_refl _))
    replace hP := hP.ext ho45
    replace hO1 := hO1.ext ho45
    replace hO2 := hO2.ext ho45
    refine stg rfl rfl hg43 (y_not rfl) ?_
    refine st (y_pickF rfl hg43 (v := .bool _) rfl) ?_
    refine st (mvB rfl) ?_
    refine gspL 69 rfl (fun hg50 => ?_) (fun hg50 => ?_)
    ·
      have hg50n := hg50; try simp only [decide_eq_true_eq, decide_eq_false_iff_not, Bool.not_eq_true', Bool.not_eq_false', Bool.and_eq_true, Bool.or_eq_true, Bool.or_eq_false_iff, Bool.cond_true_right, Bool.cond_false_right, Bool.cond_true_left, Bool.cond_false_left, ne_eq, Decidable.not_not, bne_iff_ne, beq_iff_eq, beq_eq_false_iff_ne, Bool.not_true, Bool.not_false] at hg50n
      exact absurd (decide_eq_true q1) (by simpa using hg50)
    ·
      have hg50n := hg50; try simp only [decide_eq_true_eq, decide_eq_false_iff_not, Bool.not_eq_true', Bool.not_eq_false', Bool.and_eq_true, Bool.or_eq_true, Bool.or_eq_false_iff, Bool.cond_true_right, Bool.cond_false_right, Bool.cond_true_left, Bool.cond_false_left, ne_eq, Decidable.not_not, bne_iff_ne, beq_iff_eq, beq_eq_false_iff_ne, Bool.not_true, Bool.not_false] at hg50n
      refine stg rfl rfl hg50 (mvI rfl) ?_
      refine stg rfl rfl hg50 (mvI rfl) ?_
      refine stg rfl rfl hg50 (y_neq rfl rfl) ?_
      refine st (y_pickF rfl hg50 (v := .bool _) rfl) ?_
      refine st (mvB rfl) ?_
      refine gspL 74 rfl (fun hg51 => ?_) (fun hg51 => ?_)
      ·
        have hg51n := hg51; try simp only [decide_eq_true_eq, decide_eq_false_iff_not, Bool.not_eq_true', Bool.not_eq_false', Bool.and_eq_true, Bool.or_eq_true, Bool.or_eq_false_iff, Bool.cond_true_right, Bool.cond_false_right, Bool.cond_true_left, Bool.cond_false_left, ne_eq, Decidable.not_not, bne_iff_ne, beq_iff_eq, beq_eq_false_iff_ne, Bool.not_true, Bool.not_false] at hg51n
        exfalso; omega
      ·
        have hg51n := hg51; try simp only [decide_eq_true_eq, decide_eq_false_iff_not, Bool.not_eq_true', Bool.not_eq_false', Bool.and_eq_true, Bool.or_eq_true, Bool.or_eq_false_iff, Bool.cond_true_right, Bool.cond_false_right, Bool.cond_true_left, Bool.cond_false_left, ne_eq, Decidable.not_not, bne_iff_ne, beq_iff_eq, beq_eq_false_iff_ne, Bool.not_true, Bool.not_false] at hg51n
        refine stg rfl rfl hg51 (mvI rfl) ?_
        refine stg rfl rfl hg51 (mvI rfl) ?_
        refine stg rfl rfl hg51 (y_neq rfl rfl) ?_
        refine st (y_pickF rfl hg51 (v := .bool _) rfl) ?_
        refine st (mvB rfl) ?_
        refine gspL 79 rfl (fun hg52 => ?_) (fun hg52 => ?_)
        ·
          have hg52n := hg52; try simp only [decide_eq_true_eq, decide_eq_false_iff_not, Bool.not_eq_true', Bool.not_eq_false', Bool.and_eq_true, Bool.or_eq_true, Bool.or_eq_false_iff, Bool.cond_true_right, Bool.cond_false_right, Bool.cond_true_left, Bool.cond_false_left, ne_eq, Decidable.not_not, bne_iff_ne, beq_iff_eq, beq_eq_false_iff_ne, Bool.not_true, Bool.not_false] at hg52n
          exfalso; omega
        ·
          have hg52n := hg52; try simp only [decide_eq_true_eq, decide_eq_false_iff_not, Bool.not_eq_true', Bool.not_eq_false', Bool.and_eq_true, Bool.or_eq_true, Bool.or_eq_false_iff, Bool.cond_true_right, Bool.cond_false_right, Bool.cond_true_left, Bool.cond_false_left, ne_eq, Decidable.not_not, bne_iff_ne, beq_iff_eq, beq_eq_false_iff_ne, Bool.not_true, Bool.not_false] at hg52n
          refine stg rfl rfl hg52 (mvI rfl) ?_
          refine stg rfl rfl hg52 (mvI rfl) ?_
          refine stg rfl rfl hg52 (y_neq rfl rfl) ?_
          refine st (y_pickF rfl hg52 (v := .bool _) rfl) ?_
          refine st (mvB rfl) ?_
          refine gspL 84 rfl (fun hg53 => ?_) (fun hg53 => ?_)
          ·
            have hg53n := hg53; try simp only [decide_eq_true_eq, decide_eq_false_iff_not, Bool.not_eq_true', Bool.not_eq_false', Bool.and_eq_true, Bool.or_eq_true, Bool.or_eq_false_iff, Bool.cond_true_right, Bool.cond_false_right, Bool.cond_true_left, Bool.cond_false_left, ne_eq, Decidable.not_not, bne_iff_ne, beq_iff_eq, beq_eq_false_iff_ne, Bool.not_true, Bool.not_false] at hg53n
            exfalso; omega
          ·
            have hg53n := hg53; try simp only [decide_eq_true_eq, decide_eq_false_iff_not, Bool.not_eq_true', Bool.not_eq_false', Bool.and_eq_true, Bool.or_eq_true, Bool.or_eq_false_iff, Bool.cond_true_right, Bool.cond_false_right, Bool.cond_true_left, Bool.cond_false_left, ne_eq, Decidable.not_not, bne_iff_ne, beq_iff_eq, beq_eq_false_iff_ne, Bool.not_true, Bool.not_false] at hg53n
            refine stg rfl rfl hg53 (mvI rfl) ?_
            refine stg rfl rfl hg53 (mvI rfl) ?_
            refine stg rfl rfl hg53 (y_neq rfl rfl) ?_
            refine st (y_pickF rfl hg53 (v := .bool _) rfl) ?_
            refine rg_end ?_
            refine n_then ?_
            refine cnd rfl (fun hc0 => ?_) (fun hc0 => ?_)
            ·
              try simp only [decide_eq_true_eq, decide_eq_false_iff_not, Bool.not_eq_true', Bool.not_eq_false', Bool.and_eq_true, Bool.or_eq_true, Bool.or_eq_false_iff, Bool.cond_true_right, Bool.cond_false_right, Bool.cond_true_left, Bool.cond_false_left, ne_eq, Decidable.not_not, bne_iff_ne, beq_iff_eq, beq_eq_false_iff_ne, Bool.not_true, Bool.not_false] at hc0
              exfalso; omega
            ·
              try simp only [decide_eq_true_eq, decide_eq_false_iff_not, Bool.not_eq_true', Bool.not_eq_false', Bool.and_eq_true, Bool.or_eq_true, Bool.or_eq_false_iff, Bool.cond_true_right, Bool.cond_false_right, Bool.cond_true_left, Bool.cond_false_left, ne_eq, Decidable.not_not, bne_iff_ne, beq_iff_eq, beq_eq_false_iff_ne, Bool.not_true, Bool.not_false] at hc0
              refine wp_skip ?_
              refine n_then ?_
              refine wp_seq ?_
              refine rg ?_
              refine sc cl16 (law36_awake_ok _) rfl ?_
              rintro v58 w54 ⟨rfl, ho55⟩
              have hz59 := ho55.size
              replace hP0 := hP0.ext ho55
              replace hL1 := hL1.ext ho55
              replace hL2 := hL2.ext ho55
              replace hE := hE.step ho55 (.inl (Nat.le_refl _))
              replace hP := hP.ext ho55
              replace hO1 := hO1.ext ho55
              replace hO2 := hO2.ext ho55
              refine st (mvB rfl) ?_
              refine stg rfl rfl rfl (mvS rfl) ?_
              refine stg rfl rfl rfl (mvS rfl) ?_
              refine scg rfl rfl rfl cl31 (dead_Check_ok rows0 _ _ _ _ l2 _ _ _ _ _ hP0 (by omega) hL2 hln0 (by omega)) rfl ?_
              rintro v64 w60 ⟨k7, rfl, hck7, ho61⟩
              have hz65 := ho61.size
              replace hP0 := hP0.ext ho61
              replace hL1 := hL1.ext ho61
              replace hL2 := hL2.ext ho61
              replace hE := hE.step ho61 (.inl (Nat.le_refl _))
              replace hP := hP.ext ho61
              replace hO1 := hO1.ext ho61
              replace hO2 := hO2.ext ho61
              refine stg rfl rfl rfl (mvS rfl) ?_
              refine stg rfl rfl rfl (mvS rfl) ?_
              refine scg rfl rfl rfl cl15 (ref35_CheckState_ok rows0 _ _ _ _ l2 _ _ _ _ _ hP0 (by omega) hL2 hln0 (by omega)) rfl ?_
              rintro v70 w66 ⟨k8, rfl, hck8, ho67⟩
              have q7 := hck7.uniq hck8
              have hz71 := ho67.size
              replace hP0 := hP0.ext ho67
              replace hL1 := hL1.ext ho67
              replace hL2 := hL2.ext ho67
              replace hE := hE.step ho67 (.inl (Nat.le_refl _))
              replace hP := hP.ext ho67
              replace hO1 := hO1.ext ho67
              replace hO2 := hO2.ext ho67
              refine stg rfl rfl rfl (y_eql rfl rfl) ?_
              refine st (y_pickT rfl rfl (v := .bool _) rfl) ?_
              refine st (mvB rfl) ?_
              refine gspL 99 rfl (fun hg72 => ?_) (fun hg72 => ?_)
              ·
                have hg72n := hg72; try simp only [decide_eq_true_eq, decide_eq_false_iff_not, Bool.not_eq_true', Bool.not_eq_false', Bool.and_eq_true, Bool.or_eq_true, Bool.or_eq_false_iff, Bool.cond_true_right, Bool.cond_false_right, Bool.cond_true_left, Bool.cond_false_left, ne_eq, Decidable.not_not, bne_iff_ne, beq_iff_eq, beq_eq_false_iff_ne, Bool.not_true, Bool.not_false] at hg72n
                refine stg rfl rfl hg72 (mvS rfl) ?_
                refine stg rfl rfl hg72 (mvS rfl) ?_
                refine scg rfl rfl hg72 cl15 (ref35_CheckState_ok rows0 _ _ _ _ l2 _ _ _ _ _ hP0 (by omega) hL2 hln0 (by omega)) rfl ?_
                rintro v77 w73 ⟨k9, rfl, hck9, ho74⟩
                have hz78 := ho74.size
                replace hP0 := hP0.ext ho74
                replace hL1 := hL1.ext ho74
                replace hL2 := hL2.ext ho74
                replace hE := hE.step ho74 (.inl (Nat.le_refl _))
                replace hP := hP.ext ho74
                replace hO1 := hO1.ext ho74
                replace hO2 := hO2.ext ho74
                refine stg rfl rfl hg72 (y_eql rfl rfl) ?_
                refine stg rfl rfl hg72 (mvB rfl) ?_
                refine gspL 104 rfl (fun hg79 => ?_) (fun hg79 => ?_)
                ·
                  have hg79n := hg79; try simp only [decide_eq_true_eq, decide_eq_false_iff_not, Bool.not_eq_true', Bool.not_eq_false', Bool.and_eq_true, Bool.or_eq_true, Bool.or_eq_false_iff, Bool.cond_true_right, Bool.cond_false_right, Bool.cond_true_left, Bool.cond_false_left, ne_eq, Decidable.not_not, bne_iff_ne, beq_iff_eq, beq_eq_false_iff_ne, Bool.not_true, Bool.not_false] at hg79n
                  refine sts rfl rfl hg79 ?_
                  refine sts rfl rfl hg79 ?_
                  refine sts rfl rfl hg79 ?_
                  refine sts rfl rfl hg79 ?_
                  refine sts rfl rfl hg79 ?_
                  refine sts rfl rfl hg79 ?_
                  refine stu rfl rfl ?_
                  refine stu rfl rfl ?_
                  refine stu rfl rfl ?_
                  refine stu rfl rfl ?_
                  refine stu rfl rfl ?_
                  refine sts rfl rfl hg79 ?_
                  refine stg rfl rfl hg72 (y_pickT rfl hg79 (v := .bool _) rfl) ?_
                  refine st (y_pickT rfl hg72 (v := .bool _) rfl) ?_
                  refine st (asB rfl) ?_
                  refine rg_end ?_
                  refine n_then ?_
                  refine wp_ret ?_
                  refine ret1 (v := (.bool _)) Try.results11 rfl ?_
                  first
                  | (refine ⟨vb ?_, hE⟩; rw [hlb]; decide)
                  | exact ⟨rfl, hE⟩
                ·
                  have hg79n := hg79; try simp only [decide_eq_true_eq, decide_eq_false_iff_not, Bool.not_eq_true', Bool.not_eq_false', Bool.and_eq_true, Bool.or_eq_true, Bool.or_eq_false_iff, Bool.cond_true_right, Bool.cond_false_right, Bool.cond_true_left, Bool.cond_false_left, ne_eq, Decidable.not_not, bne_iff_ne, beq_iff_eq, beq_eq_false_iff_ne, Bool.not_true, Bool.not_false] at hg79n
                  have hk9 : k9 ≠ 0 := by simpa using hg79
                  refine stg rfl rfl hg79 (mvS rfl) ?_
                  refine stg rfl rfl hg79 (mvS rfl) ?_
                  refine scg rfl rfl hg79 cl23 (dead_Moves_ok rows0 _ _ _ _ l2 _ _ _ _ _ hP0 (by omega) hL2 hln0 (by omega)) rfl ?_
                  rintro v84 w80 ⟨ada, cca, la, rfl, hOa, hmva, ho81⟩
                  have hla : (la.length : Int) = 0 := by rw [(hmva k9 hck9).1 hk9]; rfl
                  have hz85 := ho81.size
                  replace hP0 := hP0.ext ho81
                  replace hL1 := hL1.ext ho81
                  replace hL2 := hL2.ext ho81
                  replace hE := hE.step ho81 (.inl (Nat.le_refl _))
                  replace hP := hP.ext ho81
                  replace hO1 := hO1.ext ho81
                  replace hO2 := hO2.ext ho81
                  refine stg rfl rfl hg79 (y_len Try.underlying22 rfl) ?_
                  refine stg rfl rfl hg79 (y_eql rfl rfl) ?_
                  refine stg rfl rfl hg79 (mvB rfl) ?_
                  refine gspL 110 rfl (fun hg86 => ?_) (fun hg86 => ?_)
                  ·
                    have hg86n := hg86; try simp only [decide_eq_true_eq, decide_eq_false_iff_not, Bool.not_eq_true', Bool.not_eq_false', Bool.and_eq_true, Bool.or_eq_true, Bool.or_eq_false_iff, Bool.cond_true_right, Bool.cond_false_right, Bool.cond_true_left, Bool.cond_false_left, ne_eq, Decidable.not_not, bne_iff_ne, beq_iff_eq, beq_eq_false_iff_ne, Bool.not_true, Bool.not_false] at hg86n
                    refine stg rfl rfl hg86 (mvS rfl) ?_
                    refine stg rfl rfl hg86 (mvS rfl) ?_
                    refine scg rfl rfl hg86 cl25 (dead_Knot_ok rows0 _ _ _ _ l2 _ _ _ _ _ hP0 (by omega) hL2 hln0 (by omega)) rfl ?_
                    rintro v91 w87 ⟨adb, ccb, lb, rfl, hOb, hmvb, ho88⟩
                    have hlb : (lb.length : Int) = 0 := by rw [(hmvb k9 hck9).1 hk9]; rfl
                    have hz92 := ho88.size
                    replace hP0 := hP0.ext ho88
                    replace hL1 := hL1.ext ho88
                    replace hL2 := hL2.ext ho88
                    replace hE := hE.step ho88 (.inl (Nat.le_refl _))
                    replace hP := hP.ext ho88
                    replace hO1 := hO1.ext ho88
                    replace hO2 := hO2.ext ho88
                    replace hOa := hOa.ext ho88
                    refine stg rfl rfl hg86 (y_len Try.underlying22 rfl) ?_
                    refine stg rfl rfl hg86 (y_eql rfl rfl) ?_
                    refine stg rfl rfl hg79 (y_pickT rfl hg86 (v := .bool _) rfl) ?_
                    refine stg rfl rfl hg72 (y_pickF rfl hg79 (v := .bool _) rfl) ?_
                    refine st (y_pickT rfl hg72 (v := .bool _) rfl) ?_
                    refine st (asB rfl) ?_
                    refine rg_end ?_
                    refine n_then ?_
                    refine wp_ret ?_
                    refine ret1 (v := (.bool _)) Try.results11 rfl ?_
                    first
                    | (refine ⟨vb ?_, hE⟩; rw [hlb]; decide)
                    | exact ⟨rfl, hE⟩
                  ·
                    have hg86n := hg86; try simp only [decide_eq_true_eq, decide_eq_false_iff_not, Bool.not_eq_true', Bool.not_eq_false', Bool.and_eq_true, Bool.or_eq_true, Bool.or_eq_false_iff, Bool.cond_true_right, Bool.cond_false_right, Bool.cond_true_left, Bool.cond_false_left, ne_eq, Decidable.not_not, bne_iff_ne, beq_iff_eq, beq_eq_false_iff_ne, Bool.not_true, Bool.not_false] at hg86n
                    exact absurd (decide_eq_true (hla)) (by rw [hg86]; decide)
              ·
                have hg72n := hg72; try simp only [decide_eq_true_eq, decide_eq_false_iff_not, Bool.not_eq_true', Bool.not_eq_false', Bool.and_eq_true, Bool.or_eq_true, Bool.or_eq_false_iff, Bool.cond_true_right, Bool.cond_false_right, Bool.cond_true_left, Bool.cond_false_left, ne_eq, Decidable.not_not, bne_iff_ne, beq_iff_eq, beq_eq_false_iff_ne, Bool.not_true, Bool.not_false] at hg72n
                exact absurd (decide_eq_true (q7)) (by rw [hg72]; decide)
end Go.Proofs.Yteicgnmggkhlbaa
