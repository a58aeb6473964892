/-
  Walks of the functions, printed by a program out of the code and the loops' relations.
-/
import Derived.Test.YteicgnmggkhlbaaWkG
import Derived.Test.YteicgnmggkhlbaaProg
import Derived.KernelRfl
import Derived.Test.YteicgnmggkhlbaaP20
namespace Go.Proofs.Yteicgnmggkhlbaa
open Go.Wk Go.RowKit
set_option linter.unusedVariables false
set_option linter.unusedSimpArgs false
theorem cl18 : Callable Try.prog 18 := ⟨Try.call18⟩

theorem blocked_hel {rows : List Pw} {a : List Int} (hva : VaP rows) (hg : GoP rows a) {t : Nat} (ht : t < rows.length) (hlt : el a (t : Int) < (el rows (t : Int)).st.length) (hm : ¬ movB rows a (t : Int) = true) : Hel rows (nxA a t) := by
  have hl := hg.len
  rw [movB_iff] at hm
  have h1 : el a (t : Int) + 1 < (el rows (t : Int)).st.length ∧ ∃ v : Nat, v < rows.length ∧ v ≠ t ∧ secT rows a (v : Int) = (el (el rows (t : Int)).st (el a (t : Int) + 1)).sec := by
    refine Classical.byContradiction fun hn => hm ⟨hlt, fun h2 v hv hne e => hn ⟨h2, v, hv, hne, e⟩⟩
  obtain ⟨h2, v, hv, hne, e⟩ := h1
  have hs := nx_rng (A := a) hva ht (hg.rng t ht).1 h2
  have e1 : secT rows (nxA a t) (t : Int) = (el (el rows (t : Int)).st (el a (t : Int) + 1)).sec := by
    unfold secT; rw [nx_t (by omega), if_neg (by have := (hg.rng t ht).1; omega)]
  have e2 : secT rows (nxA a t) (v : Int) = secT rows a (v : Int) := secT_congr (nx_u hne)
  by_cases q : v < t
  · exact ⟨t, v, ht, q, by omega, by omega⟩
  · exact ⟨v, t, hv, by omega, by omega, by omega⟩
theorem ad_all {rows : List Pw} {at_ : List Int} {n e k : Int} {t : Nat} (hsm : SmP rows) (hg : GoP rows at_) (hnh : ¬ Hel rows at_) (ht : t < rows.length) (hck : CkR rows at_ k) (h : (n, e) = adF rows at_ (t : Int) 1048576 k) : (e = 0 ∧ movB rows at_ (t : Int) = true ∧ Safe rows (nxA at_ t)) ∨ (e = 19 ∧ movB rows at_ (t : Int) = true ∧ ¬ Safe rows (nxA at_ t)) ∨ (e = 16 ∧ ¬ movB rows at_ (t : Int) = true) := by
  have hk := hck.of hsm.va hg hnh
  unfold adF at h
  rw [if_neg (fun q => q hk), if_neg (by omega)] at h
  by_cases c : movB rows at_ (t : Int) = true
  · rw [if_pos c, Int.toNat_natCast] at h
    have hx : ((srF rows (nxA at_ t) 1048576 0).1, n, e) = srF rows (nxA at_ t) 1048576 0 := by
      rw [show (n, e) = (srF rows (nxA at_ t) 1048576 0).2 from h]
    rcases sr_safe (hg.nx ht c) hsm.tot.2 rfl hx with ⟨q1, q2⟩ | ⟨q1, q2⟩
    · exact .inl ⟨q1, c, q2.safe⟩
    · exact .inr (.inl ⟨q1, c, q2⟩)
  · rw [if_neg c] at h
    exact .inr (.inr ⟨congrArg Prod.snd h, c⟩)
theorem safe_iff {rows : List Pw} {a : List Int} : Safe rows a ↔ leftB rows a = true ∨ ∃ u : Nat, u < rows.length ∧ movB rows a (u : Int) = true ∧ Safe rows (nxA a u) := by
  constructor
  · intro h
    cases h with
    | done q => exact .inl q
    | step t ht hm q => exact .inr ⟨t, ht, hm, q⟩
  · rintro (q | ⟨t, ht, hm, q⟩)
    · exact .done q
    · exact .step t ht hm q
theorem so_T {P : Nat → Prop} {lf : Prop} {j : Nat} (hv : P j) : true = true ↔ lf ∨ ∃ i, i < j + 1 ∧ P i := ⟨fun _ => .inr ⟨j, by omega, hv⟩, fun _ => rfl⟩
theorem so_F {P : Nat → Prop} {ok : Bool} {lf : Prop} {j : Nat} (h : ok = true ↔ lf ∨ ∃ i, i < j ∧ P i) (hv : ¬ P j) : ok = true ↔ lf ∨ ∃ i, i < j + 1 ∧ P i := by
  rw [h]
  refine or_congr_right ⟨fun ⟨i, hi, p⟩ => ⟨i, by omega, p⟩, fun ⟨i, hi, p⟩ => ?_⟩
  by_cases e : i = j
  · subst e; exact absurd p hv
  · exact ⟨i, by omega, p⟩
theorem beq_of {p q : Bool} (h : p = true ↔ q = true) : (p == q) = true := by cases p <;> cases q <;> simp_all

set_option maxHeartbeats 4000000 in
set_option maxRecDepth 100000 in
theorem law36_DeadlockComplete_ok (a0 : Option Addr) (c0 : Nat) (l0 : List Int) (a1 : Option Addr) (c1 : Nat) (l1 : List Int) (w : World) (hL0 : Ints 0 w.heap.size w a0 l0) (hl0 : (l0.length : Int) ≤ 9223372036854775807) (hL1 : Ints 0 w.heap.size w a1 l1) (hl1 : (l1.length : Int) ≤ 9223372036854775807)  : Cal Try.prog 3 [.slice a0 l0.length c0, .slice a1 l1.length c1] w (fun v w' => v = .bool true ∧ Ext w w') := by
  have hE : Out 0 0 w w := Out.refl _ _ w
  refine enter Try.func3 rfl Try.ntmps3 rfl ?_
  refine wp_seq ?_
  refine rg ?_
  refine st (asB rfl) ?_
  refine rg_end ?_
  refine n_then ?_
  refine wp_seq ?_
  refine rg ?_
  refine st (mvS rfl) ?_
  refine sc cl13 (keep2_Paths_ok _ _ _ _ _ _ hL0 hl0) rfl ?_
  rintro v5 w1 ⟨rows, ap, cp, rfl, hsm, hcp, hP, ho2⟩
  have hva := hsm.va
  have hn3 := hsm.n3
  have hn1 := hsm.n1
  have hln := sm_len hsm
  have hz6 := ho2.size
  replace hL0 := hL0.ext ho2
  replace hL1 := hL1.ext ho2
  replace hE := hE.step ho2 (.inl (Nat.le_refl _))
  refine st (asS rfl) ?_
  refine rg_end ?_
  refine n_then ?_
  refine wp_seq ?_
  refine rg ?_
  refine st (mvS rfl) ?_
  refine st (mvS rfl) ?_
  refine sc cl14 (keep2_At_ok rows _ _ _ _ _ _ _ _ _ _ hP (by omega) hL1 hl1 hsm) rfl ?_
  rintro v11 w7 ⟨ax, cx, at_, rfl, hg, hcx, hx, ho8⟩
  have hl := hg.len
  have hz12 := ho8.size
  replace hL0 := hL0.ext ho8
  replace hL1 := hL1.ext ho8
  replace hE := hE.step ho8 (.inl (Nat.le_refl _))
  replace hP := hP.ext ho8
  refine st (asS rfl) ?_
  refine rg_end ?_
  refine n_then ?_
  refine wp_seq ?_
  refine wp_seq ?_
  refine rg ?_
  refine st (mvS rfl) ?_
  refine st (mvS rfl) ?_
  refine sc cl15 (ref35_CheckState_ok rows _ _ _ _ at_ _ _ _ _ _ hP (by omega) (Ow.sl hx) hln (by omega)) rfl ?_
  rintro v17 w13 ⟨k0, rfl, hck0, ho14⟩
  have hz18 := ho14.size
  replace hL0 := hL0.ext ho14
  replace hL1 := hL1.ext ho14
  replace hE := hE.step ho14 (.inl (Nat.le_refl _))
  replace hP := hP.ext ho14
  replace hx := hx.ext ho14
  refine st (y_neq rfl rfl) ?_
  refine rg_end ?_
  refine n_then ?_
  refine cnd rfl (fun hc0 => ?_) (fun hc0 => ?_)
  ·
    try simp only [decide_eq_true_eq, decide_eq_false_iff_not, Bool.not_eq_true', Bool.not_eq_false', Bool.and_eq_true, Bool.or_eq_true, Bool.or_eq_false_iff, Bool.cond_true_right, Bool.cond_false_right, Bool.cond_true_left, Bool.cond_false_left, ne_eq, Decidable.not_not, bne_iff_ne, beq_iff_eq, beq_eq_false_iff_ne, Bool.not_true, Bool.not_false] at hc0
    refine wp_seq ?_
    refine rg ?_
    refine sc cl16 (law36_awake_ok _) rfl ?_
    rintro v23 w19 ⟨rfl, ho20⟩
    have hz24 := ho20.size
    replace hL0 := hL0.ext ho20
    replace hL1 := hL1.ext ho20
    replace hE := hE.step ho20 (.inl (Nat.le_refl _))
    replace hP := hP.ext ho20
    replace hx := hx.ext ho20
    refine st (asB rfl) ?_
    refine rg_end ?_
    refine n_then ?_
    refine wp_ret ?_
    refine r_then (ret1 (v := (.bool _)) Try.results3 rfl ?_)
    exact ⟨rfl, hE⟩
  ·
    try simp only [decide_eq_true_eq, decide_eq_false_iff_not, Bool.not_eq_true', Bool.not_eq_false', Bool.and_eq_true, Bool.or_eq_true, Bool.or_eq_false_iff, Bool.cond_true_right, Bool.cond_false_right, Bool.cond_true_left, Bool.cond_false_left, ne_eq, Decidable.not_not, bne_iff_ne, beq_iff_eq, beq_eq_false_iff_ne, Bool.not_true, Bool.not_false] at hc0
    have hnh : ¬ Hel rows at_ := by
      rcases ck_cases hck0 hva hg with q | q
      · exact q.2
      · omega
    refine wp_skip ?_
    refine n_then ?_
    refine wp_seq ?_
    refine rg ?_
    refine st (mvS rfl) ?_
    refine st (mvS rfl) ?_
    refine sc cl17 (dead_Search_ok rows _ _ _ _ at_ _ _ _ _ 1048576 _ hP (by omega) (Ow.sl hx) hln (by omega)) rfl ?_
    rintro v29 w25 ⟨ad1, cc1, s1, n1, e1, k1, rfl, hck1, hsr1, hO1, ho26⟩
    have hall := sr_all hsm hg hck1 hsr1
    have hz30 := ho26.size
    replace hL0 := hL0.ext ho26
    replace hL1 := hL1.ext ho26
    replace hE := hE.step ho26 (.inl (Nat.le_refl _))
    replace hP := hP.ext ho26
    replace hx := hx.ext ho26
    refine st (mvT rfl) ?_
    refine st (y_ext rfl rfl) ?_
    refine st (y_ext rfl rfl) ?_
    refine st (y_ext rfl rfl) ?_
    refine st (asS rfl) ?_
    refine st (asI rfl) ?_
    refine st (asI rfl) ?_
    refine rg_end ?_
    refine n_then ?_
    refine wp_seq ?_
    refine rg ?_
    refine st (mvS rfl) ?_
    refine sc cl18 (law36_reach_ok rows _ _ _ _ _ hP (by omega) hsm) rfl ?_
    rintro v35 w31 ⟨rad, rc, Sf, rfl, hSf, hrc, ho32⟩
    have hSl := hrc.1
    have hz36 := ho32.size
    replace hL0 := hL0.ext ho32
    replace hL1 := hL1.ext ho32
    replace hE := hE.step ho32 (.inl (Nat.le_refl _))
    replace hP := hP.ext ho32
    replace hx := hx.ext ho32
    replace hO1 := hO1.ext ho32
    refine st (mvS rfl) ?_
    refine st (mvS rfl) ?_
    refine sc cl19 (law36_index_ok rows _ _ _ _ at_ _ _ _ _ _ hP (by omega) (Ow.sl hx) hsm hg) rfl ?_
    rintro v41 w37 ⟨rfl, ho38⟩
    have hir := idx_rng (rows := rows) (a := at_) (k := rows.length) hg.rng
    have hz42 := ho38.size
    replace hL0 := hL0.ext ho38
    replace hL1 := hL1.ext ho38
    replace hE := hE.step ho38 (.inl (Nat.le_refl _))
    replace hP := hP.ext ho38
    replace hx := hx.ext ho38
    replace hO1 := hO1.ext ho38
    replace hSf := hSf.ext ho38
    refine st (y_ix hSf sl31 rfl (rfl) rfl (by omega) (by omega)) ?_
    refine st (y_le hSf na4 rfl (by omega) (by omega) rfl) ?_
    have hse := hrc.2 at_ hg
    refine st (asB rfl) ?_
    refine rg_end ?_
    refine n_then ?_
    refine wp_seq ?_
    refine rg ?_
    refine sc cl16 (law36_awake_ok _) rfl ?_
    rintro v47 w43 ⟨rfl, ho44⟩
    have hz48 := ho44.size
    replace hL0 := hL0.ext ho44
    replace hL1 := hL1.ext ho44
    replace hE := hE.step ho44 (.inl (Nat.le_refl _))
    replace hP := hP.ext ho44
    replace hx := hx.ext ho44
    replace hO1 := hO1.ext ho44
    replace hSf := hSf.ext ho44
    refine st (mvB rfl) ?_
    refine stg rfl rfl rfl (mvB rfl) ?_
    refine stg rfl rfl rfl (mvB rfl) ?_
    refine gspL 38 rfl (fun hg49 => ?_) (fun hg49 => ?_)
    ·
      have hg49n := hg49; try simp only [decide_eq_true_eq, decide_eq_false_iff_not, Bool.not_eq_true', Bool.not_eq_false', Bool.and_eq_true, Bool.or_eq_true, Bool.or_eq_false_iff, Bool.cond_true_right, Bool.cond_false_right, Bool.cond_true_left, Bool.cond_false_left, ne_eq, Decidable.not_not, bne_iff_ne, beq_iff_eq, beq_eq_false_iff_ne, Bool.not_true, Bool.not_false] at hg49n
      have he0 : e1 = 0 := by
        rcases hall with q | q | q
        · exact q.1
        · exact absurd (hse.1 hg49).1 q.2.2.2
        · exact absurd q.2.2 hnh
      refine stg rfl rfl hg49 (mvI rfl) ?_
      refine stg rfl rfl hg49 (y_eql rfl rfl) ?_
      refine stg rfl rfl rfl (y_pickT rfl hg49 (v := .bool _) rfl) ?_
      refine stg rfl rfl rfl (mvB rfl) ?_
      refine gspL 42 rfl (fun hg50 => ?_) (fun hg50 => ?_)
      ·
        have hg50n := hg50; try simp only [decide_eq_true_eq, decide_eq_false_iff_not, Bool.not_eq_true', Bool.not_eq_false', Bool.and_eq_true, Bool.or_eq_true, Bool.or_eq_false_iff, Bool.cond_true_right, Bool.cond_false_right, Bool.cond_true_left, Bool.cond_false_left, ne_eq, Decidable.not_not, bne_iff_ne, beq_iff_eq, beq_eq_false_iff_ne, Bool.not_true, Bool.not_false] at hg50n
        refine sts rfl rfl hg50 ?_
        refine sts rfl rfl hg50 ?_
        refine sts rfl rfl hg50 ?_
        refine stu rfl rfl ?_
        refine stu rfl rfl ?_
        refine sts rfl rfl hg50 ?_
        refine stg rfl rfl rfl (y_pickT rfl hg50 (v := .bool _) rfl) ?_
        refine st (y_pickT rfl rfl (v := .bool _) rfl) ?_
        refine st (asB rfl) ?_
        refine rg_end ?_
        refine n_then ?_
        refine wp_ret ?_
        refine ret1 (v := (.bool _)) Try.results3 rfl ?_
        first
        | (refine ⟨vb ?_, hE⟩; rw [he19]; decide)
        | exact ⟨rfl, hE⟩
      ·
        have hg50n := hg50; try simp only [decide_eq_true_eq, decide_eq_false_iff_not, Bool.not_eq_true', Bool.not_eq_false', Bool.and_eq_true, Bool.or_eq_true, Bool.or_eq_false_iff, Bool.cond_true_right, Bool.cond_false_right, Bool.cond_true_left, Bool.cond_false_left, ne_eq, Decidable.not_not, bne_iff_ne, beq_iff_eq, beq_eq_false_iff_ne, Bool.not_true, Bool.not_false] at hg50n
        exact absurd (decide_eq_true (he0)) (by rw [hg50]; decide)
    ·
      have hg49n := hg49; try simp only [decide_eq_true_eq, decide_eq_false_iff_not, Bool.not_eq_true', Bool.not_eq_false', Bool.and_eq_true, Bool.or_eq_true, Bool.or_eq_false_iff, Bool.cond_true_right, Bool.cond_false_right, Bool.cond_true_left, Bool.cond_false_left, ne_eq, Decidable.not_not, bne_iff_ne, beq_iff_eq, beq_eq_false_iff_ne, Bool.not_true, Bool.not_false] at hg49n
      have hsf0 : el Sf (idxT rows at_ rows.length) = false := hg49
      have he19 : e1 = 19 := by
        rcases hall with q | q | q
        · have := hse.2 ⟨q.2.2.2.safe, hnh⟩
          rw [hsf0] at this; cases this
        · exact q.1
        · exact absurd q.2.2 hnh
      refine sts rfl rfl hg49 ?_
      refine sts rfl rfl hg49 ?_
      refine stg rfl rfl rfl (y_pickF rfl hg49 (v := .bool _) rfl) ?_
      refine stg rfl rfl rfl (mvB rfl) ?_
      refine stg rfl rfl rfl (mvB rfl) ?_
      refine stg rfl rfl rfl (y_not rfl) ?_
      refine stg rfl rfl rfl (mvB rfl) ?_
      refine gspL 45 rfl (fun hg51 => ?_) (fun hg51 => ?_)
      ·
        have hg51n := hg51; try simp only [decide_eq_true_eq, decide_eq_false_iff_not, Bool.not_eq_true', Bool.not_eq_false', Bool.and_eq_true, Bool.or_eq_true, Bool.or_eq_false_iff, Bool.cond_true_right, Bool.cond_false_right, Bool.cond_true_left, Bool.cond_false_left, ne_eq, Decidable.not_not, bne_iff_ne, beq_iff_eq, beq_eq_false_iff_ne, Bool.not_true, Bool.not_false] at hg51n
        refine stg rfl rfl hg51 (mvI rfl) ?_
        refine stg rfl rfl hg51 (y_eql rfl rfl) ?_
        refine stg rfl rfl rfl (y_pickT rfl hg51 (v := .bool _) rfl) ?_
        refine stg rfl rfl rfl (y_pickF rfl rfl (v := .bool _) rfl) ?_
        refine st (y_pickT rfl rfl (v := .bool _) rfl) ?_
        refine st (asB rfl) ?_
        refine rg_end ?_
        refine n_then ?_
        refine wp_ret ?_
        refine ret1 (v := (.bool _)) Try.results3 rfl ?_
        first
        | (refine ⟨vb ?_, hE⟩; rw [he19]; decide)
        | exact ⟨rfl, hE⟩
      ·
        have hg51n := hg51; try simp only [decide_eq_true_eq, decide_eq_false_iff_not, Bool.not_eq_true', Bool.not_eq_false', Bool.and_eq_true, Bool.or_eq_true, Bool.or_eq_false_iff, Bool.cond_true_right, Bool.cond_false_right, Bool.cond_true_left, Bool.cond_false_left, ne_eq, Decidable.not_not, bne_iff_ne, beq_iff_eq, beq_eq_false_iff_ne, Bool.not_true, Bool.not_false] at hg51n
        exact absurd hg51 (by rw [hsf0]; decide)

set_option maxHeartbeats 4000000 in
set_option maxRecDepth 100000 in
theorem law36_DeadlockLeast_ok (a0 : Option Addr) (c0 : Nat) (l0 : List Int) (a1 : Option Addr) (c1 : Nat) (l1 : List Int) (w : World) (hL0 : Ints 0 w.heap.size w a0 l0) (hl0 : (l0.length : Int) ≤ 9223372036854775807) (hL1 : Ints 0 w.heap.size w a1 l1) (hl1 : (l1.length : Int) ≤ 9223372036854775807)  : Cal Try.prog 4 [.slice a0 l0.length c0, .slice a1 l1.length c1] w (fun v w' => v = .bool true ∧ Ext w w') := by
  have hE : Out 0 0 w w := Out.refl _ _ w
  refine enter Try.func4 rfl Try.ntmps4 rfl ?_
  refine wp_seq ?_
  refine rg ?_
  refine st (asB rfl) ?_
  refine rg_end ?_
  refine n_then ?_
  refine wp_seq ?_
  refine rg ?_
  refine st (mvS rfl) ?_
  refine sc cl13 (keep2_Paths_ok _ _ _ _ _ _ hL0 hl0) rfl ?_
  rintro v5 w1 ⟨rows, ap, cp, rfl, hsm, hcp, hP, ho2⟩
  have hva := hsm.va
  have hn3 := hsm.n3
  have hn1 := hsm.n1
  have hln := sm_len hsm
  have hz6 := ho2.size
  replace hL0 := hL0.ext ho2
  replace hL1 := hL1.ext ho2
  replace hE := hE.step ho2 (.inl (Nat.le_refl _))
  refine st (asS rfl) ?_
  refine rg_end ?_
  refine n_then ?_
  refine wp_seq ?_
  refine rg ?_
  refine st (mvS rfl) ?_
  refine st (mvS rfl) ?_
  refine sc cl14 (keep2_At_ok rows _ _ _ _ _ _ _ _ _ _ hP (by omega) hL1 hl1 hsm) rfl ?_
  rintro v11 w7 ⟨ax, cx, at_, rfl, hg, hcx, hx, ho8⟩
  have hl := hg.len
  have hz12 := ho8.size
  replace hL0 := hL0.ext ho8
  replace hL1 := hL1.ext ho8
  replace hE := hE.step ho8 (.inl (Nat.le_refl _))
  replace hP := hP.ext ho8
  refine st (asS rfl) ?_
  refine rg_end ?_
  refine n_then ?_
  refine wp_seq ?_
  refine rg ?_
  refine st (mvS rfl) ?_
  refine st (mvS rfl) ?_
  refine sc cl17 (dead_Search_ok rows _ _ _ _ at_ _ _ _ _ 1048576 _ hP (by omega) (Ow.sl hx) hln (by omega)) rfl ?_
  rintro v17 w13 ⟨ad1, cc1, s1, n1, e1, k1, rfl, hck1, hsr1, hO1, ho14⟩
  have hs1l := sr_len2 hva hg hsr1
  have hall := sr_all hsm hg hck1 hsr1
  have hz18 := ho14.size
  replace hL0 := hL0.ext ho14
  replace hL1 := hL1.ext ho14
  replace hE := hE.step ho14 (.inl (Nat.le_refl _))
  replace hP := hP.ext ho14
  replace hx := hx.ext ho14
  refine st (mvT rfl) ?_
  refine st (y_ext rfl rfl) ?_
  refine st (y_ext rfl rfl) ?_
  refine st (y_ext rfl rfl) ?_
  refine st (asS rfl) ?_
  refine st (asI rfl) ?_
  refine st (asI rfl) ?_
  refine rg_end ?_
  refine n_then ?_
  refine wp_seq ?_
  refine wp_seq ?_
  refine rg ?_
  refine st (mvI rfl) ?_
  refine st (y_neq rfl rfl) ?_
  refine rg_end ?_
  refine n_then ?_
  refine cnd rfl (fun hc0 => ?_) (fun hc0 => ?_)
  ·
    try simp only [decide_eq_true_eq, decide_eq_false_iff_not, Bool.not_eq_true', Bool.not_eq_false', Bool.and_eq_true, Bool.or_eq_true, Bool.or_eq_false_iff, Bool.cond_true_right, Bool.cond_false_right, Bool.cond_true_left, Bool.cond_false_left, ne_eq, Decidable.not_not, bne_iff_ne, beq_iff_eq, beq_eq_false_iff_ne, Bool.not_true, Bool.not_false] at hc0
    refine wp_seq ?_
    refine rg ?_
    refine sc cl16 (law36_awake_ok _) rfl ?_
    rintro v23 w19 ⟨rfl, ho20⟩
    have hz24 := ho20.size
    replace hL0 := hL0.ext ho20
    replace hL1 := hL1.ext ho20
    replace hE := hE.step ho20 (.inl (Nat.le_refl _))
    replace hP := hP.ext ho20
    replace hx := hx.ext ho20
    replace hO1 := hO1.ext ho20
    refine st (mvB rfl) ?_
    refine stg rfl rfl rfl (mvS rfl) ?_
    refine stg rfl rfl rfl (mvS rfl) ?_
    refine scg rfl rfl rfl cl15 (ref35_CheckState_ok rows _ _ _ _ at_ _ _ _ _ _ hP (by omega) (Ow.sl hx) hln (by omega)) rfl ?_
    rintro v29 w25 ⟨k6, rfl, hck6, ho26⟩
    have hz30 := ho26.size
    replace hL0 := hL0.ext ho26
    replace hL1 := hL1.ext ho26
    replace hE := hE.step ho26 (.inl (Nat.le_refl _))
    replace hP := hP.ext ho26
    replace hx := hx.ext ho26
    replace hO1 := hO1.ext ho26
    refine stg rfl rfl rfl (y_neq rfl rfl) ?_
    refine st (y_pickT rfl rfl (v := .bool _) rfl) ?_
    refine st (mvB rfl) ?_
    refine gspL 38 rfl (fun hg31 => ?_) (fun hg31 => ?_)
    ·
      have hg31n := hg31; try simp only [decide_eq_true_eq, decide_eq_false_iff_not, Bool.not_eq_true', Bool.not_eq_false', Bool.and_eq_true, Bool.or_eq_true, Bool.or_eq_false_iff, Bool.cond_true_right, Bool.cond_false_right, Bool.cond_true_left, Bool.cond_false_left, ne_eq, Decidable.not_not, bne_iff_ne, beq_iff_eq, beq_eq_false_iff_ne, Bool.not_true, Bool.not_false] at hg31n
      refine sts rfl rfl hg31 ?_
      refine sts rfl rfl hg31 ?_
      refine stu rfl rfl ?_
      refine stu rfl rfl ?_
      refine sts rfl rfl hg31 ?_
      refine st (y_pickT rfl hg31 (v := .bool _) rfl) ?_
      refine st (asB rfl) ?_
      refine rg_end ?_
      refine n_then ?_
      refine wp_ret ?_
      refine r_then (ret1 (v := (.bool _)) Try.results4 rfl ?_)
      first
      | (refine ⟨vb ?_, hE⟩; rw [he19]; decide)
      | exact ⟨rfl, hE⟩
    ·
      have hg31n := hg31; try simp only [decide_eq_true_eq, decide_eq_false_iff_not, Bool.not_eq_true', Bool.not_eq_false', Bool.and_eq_true, Bool.or_eq_true, Bool.or_eq_false_iff, Bool.cond_true_right, Bool.cond_false_right, Bool.cond_true_left, Bool.cond_false_left, ne_eq, Decidable.not_not, bne_iff_ne, beq_iff_eq, beq_eq_false_iff_ne, Bool.not_true, Bool.not_false] at hg31n
      have he19 : e1 = 19 := by
        rcases hall with q | q | q
        · exact absurd q.1 hc0
        · exact q.1
        · have := hck1.uniq hck6
          exfalso
          simp at hg31
          omega
      refine scg rfl rfl hg31 cl16 (law36_awake_ok _) rfl ?_
      rintro v36 w32 ⟨rfl, ho33⟩
      have hz37 := ho33.size
      replace hL0 := hL0.ext ho33
      replace hL1 := hL1.ext ho33
      replace hE := hE.step ho33 (.inl (Nat.le_refl _))
      replace hP := hP.ext ho33
      replace hx := hx.ext ho33
      replace hO1 := hO1.ext ho33
      refine stg rfl rfl hg31 (mvB rfl) ?_
      refine stg rfl rfl rfl (mvI rfl) ?_
      refine stg rfl rfl rfl (y_eql rfl rfl) ?_
      refine stg rfl rfl hg31 (y_pickT rfl rfl (v := .bool _) rfl) ?_
      refine st (y_pickF rfl hg31 (v := .bool _) rfl) ?_
      refine st (asB rfl) ?_
      refine rg_end ?_
      refine n_then ?_
      refine wp_ret ?_
      refine r_then (ret1 (v := (.bool _)) Try.results4 rfl ?_)
      first
      | (refine ⟨vb ?_, hE⟩; rw [he19]; decide)
      | exact ⟨rfl, hE⟩
  ·
    try simp only [decide_eq_true_eq, decide_eq_false_iff_not, Bool.not_eq_true', Bool.not_eq_false', Bool.and_eq_true, Bool.or_eq_true, Bool.or_eq_false_iff, Bool.cond_true_right, Bool.cond_false_right, Bool.cond_true_left, Bool.cond_false_left, ne_eq, Decidable.not_not, bne_iff_ne, beq_iff_eq, beq_eq_false_iff_ne, Bool.not_true, Bool.not_false] at hc0
    have hpl : PlanB rows at_ s1 ∧ ¬ Hel rows at_ := by
      rcases hall with q | q | q
      · exact ⟨q.2.2.2, q.2.2.1⟩
      · omega
      · omega
    refine wp_skip ?_
    refine n_then ?_
    refine wp_seq ?_
    refine rg ?_
    refine st (mvS rfl) ?_
    refine sc cl18 (law36_reach_ok rows _ _ _ _ _ hP (by omega) hsm) rfl ?_
    rintro v42 w38 ⟨rad, rc, Sf, rfl, hSf, hrc, ho39⟩
    have hSl := hrc.1
    have hz43 := ho39.size
    replace hL0 := hL0.ext ho39
    replace hL1 := hL1.ext ho39
    replace hE := hE.step ho39 (.inl (Nat.le_refl _))
    replace hP := hP.ext ho39
    replace hx := hx.ext ho39
    replace hO1 := hO1.ext ho39
    refine st (asS rfl) ?_
    refine rg_end ?_
    refine n_then ?_
    refine wp_seq ?_
    refine rg ?_
    refine st (mvS rfl) ?_
    obtain ⟨zn, hzn⟩ : ∃ z, z = w38.heap.size := ⟨_, rfl⟩
    have hnw := Ow.nil (E := 3) (sz := 1) (enc := encI) (lo := zn) (hi := 0) (w := w38) (fun _ => rfl)
    have hrhnw := hnw.rng
    refine sd (d_appN (xs := at_) hnw sl22 infoz3 (by decide) rfl rfl rfl (rfl) (hx.sl) (fun _ => rfl) (by simp; unfold maxLen; omega) (by simp; omega) (by omega) (Nat.zero_le _) ?_)
    intro nad nc w44 ho45 hnw'
    have hs46 := ho45.size
    clear hnw; have hnw := hnw'; clear hnw'
    have hz49 := ho45.size
    replace hL0 := hL0.out ho45 (by first | omega | (simp only [blk_some, hi1_some] at *; omega))
    replace hL1 := hL1.out ho45 (by first | omega | (simp only [blk_some, hi1_some] at *; omega))
    replace hE := hE.step ho45 (by first | omega | (simp only [blk_some, hi1_some] at *; omega))
    replace hP := hP.out ho45 (by first | omega | (simp only [blk_some, hi1_some] at *; omega))
    have hrnhx := hx.rng
    replace hx := hx.out ho45 (by first | omega | (simp only [blk_some, hi1_some] at *; omega))
    have hrnhO1 := hO1.rng
    replace hO1 := hO1.out ho45 (by first | omega | (simp only [blk_some, hi1_some] at *; omega))
    replace hSf := hSf.out ho45 (by first | omega | (simp only [blk_some, hi1_some] at *; omega))
    simp only [List.nil_append] at hnw ⊢
    have hnwr := hnw.rng
    obtain ⟨zN, hzN⟩ : ∃ z, z = w44.heap.size := ⟨_, rfl⟩
    replace hnw := hnw.wide (show _ ≤ zN by omega)
    refine st (asS rfl) ?_
    refine rg_end ?_
    refine n_then ?_
    refine wp_seq ?_
    refine wp_seq ?_
    refine rg ?_
    refine st (mvS rfl) ?_
    refine st (y_len Try.underlying22 rfl) ?_
    refine st (mvI rfl) ?_
    refine rg_end ?_
    refine n_then ?_
    refine wp_block ?_
    refine lp (γ := Nat × List Int) [4, 13, 14, 16, 51, 52, 53, 54, 55, 56, 57, 58, 59, 60, 61, 62, 63, 64, 65, 66, 67, 68, 69, 70, 71, 72, 73, 74, 75, 76, 77, 78, 79, 80, 81, 82, 83, 84, 85, 86, 87, 88, 89, 90, 91, 92, 93, 94, 95, 96, 97, 98, 99, 100, 101, 102, 103, 104, 105, 106, 107, 108, 109, 110, 111, 112] (fun ⟨k, b⟩ => [(51, .int .i64 (k : Int))]) (fun ⟨k, b⟩ w_ => Out zn zN w44 w_ ∧ (k : Int) ≤ s1.length ∧ PlanB rows b (s1.drop k) ∧ GoP rows b ∧ ¬ Hel rows b ∧ Ow 3 encI 1 zn zN w_ nad nc b) (fun ⟨k, b⟩ => s1.length - k) (0, at_) ⟨rfl, trivial⟩ ⟨Out.refl _ _ _, by omega, by simpa using hpl.1, hg, hpl.2, hnw⟩ ?_
    rintro ⟨k, b⟩ hav_ w50 ⟨ho51, hk_, hpb, hgb, hnb, hnw⟩
    have hlp0 := ho51
    have hz52 := ho51.size
    replace hL0 := hL0.out ho51 (by first | omega | (simp only [blk_some, hi1_some] at *; omega))
    replace hL1 := hL1.out ho51 (by first | omega | (simp only [blk_some, hi1_some] at *; omega))
    replace hE := hE.step ho51 (by first | omega | (simp only [blk_some, hi1_some] at *; omega))
    replace hP := hP.out ho51 (by first | omega | (simp only [blk_some, hi1_some] at *; omega))
    replace hx := hx.out ho51 (by first | omega | (simp only [blk_some, hi1_some] at *; omega))
    replace hO1 := hO1.out ho51 (by first | omega | (simp only [blk_some, hi1_some] at *; omega))
    replace hSf := hSf.out ho51 (by first | omega | (simp only [blk_some, hi1_some] at *; omega))
    refine wp_seq ?_
    refine rg ?_
    refine st (y_lss rfl rfl) ?_
    refine rg_end ?_
    refine n_then ?_
    refine wp_seq ?_
    refine cnd rfl (fun hc1 => ?_) (fun hc1 => ?_)
    ·
      try simp only [decide_eq_true_eq, decide_eq_false_iff_not, Bool.not_eq_true', Bool.not_eq_false', Bool.and_eq_true, Bool.or_eq_true, Bool.or_eq_false_iff, Bool.cond_true_right, Bool.cond_false_right, Bool.cond_true_left, Bool.cond_false_left, ne_eq, Decidable.not_not, bne_iff_ne, beq_iff_eq, beq_eq_false_iff_ne, Bool.not_true, Bool.not_false] at hc1
      rw [drop_el hc1] at hpb
      obtain ⟨t, ht, htl, hmv, hlt, hpb1⟩ := hpb.inv
      have hbl := hgb.len
      have hgt := hgb.rng t htl
      have hl2 := (va_row hva (k := t) (by omega)).l2
      have hmlt := movB_lt hmv
      refine wp_skip ?_
      refine n_then ?_
      refine wp_seq ?_
      refine wp_block ?_
      refine wp_seq ?_
      refine rg ?_
      refine st (y_ix hO1.sl sl22 rfl (rfl) rfl (by omega) (by omega)) ?_
      refine st (y_le hO1.sl na3 rfl (by omega) (by omega) rfl) ?_
      rw [ht]
      refine st (asI rfl) ?_
      refine rg_end ?_
      refine n_then ?_
      refine wp_seq ?_
      refine wp_seq ?_
      refine rgD 18 (fun w_ => Ext w50 w_) (fun i => false) mixed (by kernel_rfl) ?_
      intro w53 ho54 hs55
      refine ⟨ho54, ?_⟩
      have hx56 := ho54
      refine tn rfl (fun _ hG => mvI rfl) ?_
      refine tn rfl (fun _ hG => y_lss rfl rfl) ?_
      refine tn rfl (fun _ hG => mvB rfl) ?_
      refine gspT 57 rfl (fun hg57 => ?_) (fun hg57 => ?_)
      ·
        have hg57n := hg57; try simp only [decide_eq_true_eq, decide_eq_false_iff_not, Bool.not_eq_true', Bool.not_eq_false', Bool.and_eq_true, Bool.or_eq_true, Bool.or_eq_false_iff, Bool.cond_true_right, Bool.cond_false_right, Bool.cond_true_left, Bool.cond_false_left, ne_eq, Decidable.not_not, bne_iff_ne, beq_iff_eq, beq_eq_false_iff_ne, Bool.not_true, Bool.not_false] at hg57n
        exfalso; omega
      ·
        have hg57n := hg57; try simp only [decide_eq_true_eq, decide_eq_false_iff_not, Bool.not_eq_true', Bool.not_eq_false', Bool.and_eq_true, Bool.or_eq_true, Bool.or_eq_false_iff, Bool.cond_true_right, Bool.cond_false_right, Bool.cond_true_left, Bool.cond_false_left, ne_eq, Decidable.not_not, bne_iff_ne, beq_iff_eq, beq_eq_false_iff_ne, Bool.not_true, Bool.not_false] at hg57n
        refine tng rfl rfl rfl hg57 (fun _ hG => mvI rfl) ?_
        refine tng rfl rfl rfl hg57 (fun _ hG => mvS rfl) ?_
        refine tng rfl rfl rfl hg57 (fun _ hG => y_len Try.underlying23 rfl) ?_
        refine tng rfl rfl rfl hg57 (fun _ hG => y_geq rfl rfl) ?_
        refine tn rfl (fun _ hG => y_pickF rfl hg57 (v := .bool _) rfl) ?_
        refine tn rfl (fun _ hG => mvB rfl) ?_
        refine gspT 63 rfl (fun hg58 => ?_) (fun hg58 => ?_)
        ·
          have hg58n := hg58; try simp only [decide_eq_true_eq, decide_eq_false_iff_not, Bool.not_eq_true', Bool.not_eq_false', Bool.and_eq_true, Bool.or_eq_true, Bool.or_eq_false_iff, Bool.cond_true_right, Bool.cond_false_right, Bool.cond_true_left, Bool.cond_false_left, ne_eq, Decidable.not_not, bne_iff_ne, beq_iff_eq, beq_eq_false_iff_ne, Bool.not_true, Bool.not_false] at hg58n
          exfalso; omega
        ·
          have hg58n := hg58; try simp only [decide_eq_true_eq, decide_eq_false_iff_not, Bool.not_eq_true', Bool.not_eq_false', Bool.and_eq_true, Bool.or_eq_true, Bool.or_eq_false_iff, Bool.cond_true_right, Bool.cond_false_right, Bool.cond_true_left, Bool.cond_false_left, ne_eq, Decidable.not_not, bne_iff_ne, beq_iff_eq, beq_eq_false_iff_ne, Bool.not_true, Bool.not_false] at hg58n
          refine tng rfl rfl rfl hg58 (fun _ hG => mvS rfl) ?_
          refine tng rfl rfl rfl hg58 (fun _ hG => mvI rfl) ?_
          refine tng rfl rfl rfl hg58 (fun _ hG => y_ix (hnw.ext hG).sl sl22 rfl (by omega) rfl (by omega) (by omega)) ?_
          refine tng rfl rfl rfl hg58 (fun _ hG => y_le (hnw.ext hG).sl na3 rfl (by omega) (by omega) rfl) ?_
          refine tng rfl rfl rfl hg58 (fun _ hG => mvS rfl) ?_
          refine tng rfl rfl rfl hg58 (fun _ hG => mvI rfl) ?_
          refine tng rfl rfl rfl hg58 (fun _ hG => y_ix (hP.tb.ext hG) sl23 rfl (rfl) rfl (by omega) (by omega)) ?_
          refine tng rfl rfl rfl hg58 (fun _ hG => y_le (hP.tb.ext hG) na35 rfl (by omega) (by omega) rfl) ?_
          refine tng rfl rfl rfl hg58 (fun _ hG => y_len Try.underlying35 rfl) ?_
          refine t_end ?_
          have hz59 := hx56.size
          replace hL0 := hL0.ext hx56
          replace hL1 := hL1.ext hx56
          replace hE := hE.step hx56 (.inl (Nat.le_refl _))
          replace hP := hP.ext hx56
          replace hx := hx.ext hx56
          replace hO1 := hO1.ext hx56
          replace hSf := hSf.ext hx56
          replace hnw := hnw.ext hx56
          replace hlp0 := hlp0.step hx56 (.inl (Nat.le_refl _))
          refine stg rfl rfl hg58 (y_geq rfl rfl) ?_
          refine st (y_pickF rfl hg58 (v := .bool _) rfl) ?_
          refine rg_end ?_
          refine n_then ?_
          refine cnd rfl (fun hc2 => ?_) (fun hc2 => ?_)
          ·
            try simp only [decide_eq_true_eq, decide_eq_false_iff_not, Bool.not_eq_true', Bool.not_eq_false', Bool.and_eq_true, Bool.or_eq_true, Bool.or_eq_false_iff, Bool.cond_true_right, Bool.cond_false_right, Bool.cond_true_left, Bool.cond_false_left, ne_eq, Decidable.not_not, bne_iff_ne, beq_iff_eq, beq_eq_false_iff_ne, Bool.not_true, Bool.not_false] at hc2
            exfalso; omega
          ·
            try simp only [decide_eq_true_eq, decide_eq_false_iff_not, Bool.not_eq_true', Bool.not_eq_false', Bool.and_eq_true, Bool.or_eq_true, Bool.or_eq_false_iff, Bool.cond_true_right, Bool.cond_false_right, Bool.cond_true_left, Bool.cond_false_left, ne_eq, Decidable.not_not, bne_iff_ne, beq_iff_eq, beq_eq_false_iff_ne, Bool.not_true, Bool.not_false] at hc2
            refine wp_skip ?_
            refine n_then ?_
            refine wp_seq ?_
            refine rg ?_
            refine st (mvS rfl) ?_
            refine st (mvS rfl) ?_
            refine sc cl20 (ref35_MovesM_ok rows _ _ _ _ b _ _ _ _ _ hP (by omega) (Ow.sl hnw) hln (by omega) at_.length (by omega)) rfl ?_
            rintro v64 w60 ⟨ad7, cc7, l7, rfl, hO7, hmv7, ho61⟩
            have hm7 := mv_len hmv7
            have hl7 := mv_ok hva hgb hnb hmv7
            have hO7r := hO7.rng
            have hz65 := ho61.size
            replace hL0 := hL0.ext ho61
            replace hL1 := hL1.ext ho61
            replace hE := hE.step ho61 (.inl (Nat.le_refl _))
            replace hP := hP.ext ho61
            replace hx := hx.ext ho61
            replace hO1 := hO1.ext ho61
            replace hSf := hSf.ext ho61
            replace hnw := hnw.ext ho61
            replace hlp0 := hlp0.step ho61 (.inl (Nat.le_refl _))
            refine st (asS rfl) ?_
            refine rg_end ?_
            refine n_then ?_
            refine wp_seq ?_
            refine wp_seq ?_
            refine rg ?_
            refine st (mvS rfl) ?_
            refine st (y_len Try.underlying22 rfl) ?_
            refine st (mvI rfl) ?_
            refine rg_end ?_
            refine n_then ?_
            refine wp_block ?_
            refine lp (γ := Nat) [4, 16, 80, 81, 82, 83, 84, 85, 86, 87, 88, 89, 90, 91, 92, 93, 94, 95, 96, 97, 98, 99, 100, 101, 102, 103, 104, 105] (fun j => [(80, .int .i64 (j : Int))]) (fun j w_ => Out zn zN w60 w_ ∧ (j : Int) ≤ l7.length ∧ Ow 3 encI 1 zn zN w_ nad nc b) (fun j => l7.length - j) 0 ⟨rfl, trivial⟩ ⟨Out.refl _ _ _, by omega, hnw⟩ ?_
            rintro j hav_ w66 ⟨ho67, hj_, hnw⟩
            have hlp1 := ho67
            have hz68 := ho67.size
            replace hL0 := hL0.out ho67 (by first | omega | (simp only [blk_some, hi1_some] at *; omega))
            replace hL1 := hL1.out ho67 (by first | omega | (simp only [blk_some, hi1_some] at *; omega))
            replace hE := hE.step ho67 (by first | omega | (simp only [blk_some, hi1_some] at *; omega))
            replace hP := hP.out ho67 (by first | omega | (simp only [blk_some, hi1_some] at *; omega))
            replace hx := hx.out ho67 (by first | omega | (simp only [blk_some, hi1_some] at *; omega))
            replace hO1 := hO1.out ho67 (by first | omega | (simp only [blk_some, hi1_some] at *; omega))
            replace hSf := hSf.out ho67 (by first | omega | (simp only [blk_some, hi1_some] at *; omega))
            replace hlp0 := hlp0.step ho67 (by first | omega | (simp only [blk_some, hi1_some] at *; omega))
            have hrnhO7 := hO7.rng
            replace hO7 := hO7.out ho67 (by first | omega | (simp only [blk_some, hi1_some] at *; omega))
            refine wp_seq ?_
            refine rg ?_
            refine st (y_lss rfl rfl) ?_
            refine rg_end ?_
            refine n_then ?_
            refine wp_seq ?_
            refine cnd rfl (fun hc3 => ?_) (fun hc3 => ?_)
            ·
              try simp only [decide_eq_true_eq, decide_eq_false_iff_not, Bool.not_eq_true', Bool.not_eq_false', Bool.and_eq_true, Bool.or_eq_true, Bool.or_eq_false_iff, Bool.cond_true_right, Bool.cond_false_right, Bool.cond_true_left, Bool.cond_false_left, ne_eq, Decidable.not_not, bne_iff_ne, beq_iff_eq, beq_eq_false_iff_ne, Bool.not_true, Bool.not_false] at hc3
              have hjl : (j : Int) < (movs rows b rows.length).length := by rw [← hl7]; exact hc3
              obtain ⟨u, hu, hul, humv⟩ := movs_get hjl
              rw [← hl7] at hu
              have hgu := hgb.rng u hul
              have hl3 := (va_row hva (k := u) (by omega)).l2
              have hgn := hgb.nx hul humv
              have hir := idx_rng (rows := rows) (a := nxA b u) (k := rows.length) hgn.rng
              have hxt := nx_t (at_ := b) (t := u) (by omega)
              have hnl : (nxA b u).length = rows.length := by rw [nx_len]; exact hbl
              refine wp_skip ?_
              refine n_then ?_
              refine wp_seq ?_
              refine wp_block ?_
              refine wp_seq ?_
              refine rg ?_
              refine st (y_ix hO7.sl sl22 rfl (rfl) rfl (by omega) (by omega)) ?_
              refine st (y_le hO7.sl na3 rfl (by omega) (by omega) rfl) ?_
              rw [hu]
              refine st (asI rfl) ?_
              refine rg_end ?_
              refine n_then ?_
              refine wp_seq ?_
              refine wp_seq ?_
              refine rg ?_
              refine st (mvI rfl) ?_
              refine st (mvI rfl) ?_
              refine st (y_geq rfl rfl) ?_
              refine rg_end ?_
              refine n_then ?_
              refine cnd rfl (fun hc4 => ?_) (fun hc4 => ?_)
              ·
                try simp only [decide_eq_true_eq, decide_eq_false_iff_not, Bool.not_eq_true', Bool.not_eq_false', Bool.and_eq_true, Bool.or_eq_true, Bool.or_eq_false_iff, Bool.cond_true_right, Bool.cond_false_right, Bool.cond_true_left, Bool.cond_false_left, ne_eq, Decidable.not_not, bne_iff_ne, beq_iff_eq, beq_eq_false_iff_ne, Bool.not_true, Bool.not_false] at hc4
                refine wp_exit ?_
                refine e_then (e_blk (?_))
                refine n_then ?_
                refine rg ?_
                refine st (y_add rfl rfl (by omega)) ?_
                refine st (mvI rfl) ?_
                refine rg_end ?_
                exact n_then ⟨j + 1, _, rfl, same_lk rfl (same_h0), ⟨rfl, trivial⟩, ⟨hlp1, by omega, hnw⟩, by first | omega | (dsimp only; omega)⟩
              ·
                try simp only [decide_eq_true_eq, decide_eq_false_iff_not, Bool.not_eq_true', Bool.not_eq_false', Bool.and_eq_true, Bool.or_eq_true, Bool.or_eq_false_iff, Bool.cond_true_right, Bool.cond_false_right, Bool.cond_true_left, Bool.cond_false_left, ne_eq, Decidable.not_not, bne_iff_ne, beq_iff_eq, beq_eq_false_iff_ne, Bool.not_true, Bool.not_false] at hc4
                refine wp_skip ?_
                refine n_then ?_
                refine wp_seq ?_
                refine rg ?_
                refine st (mvS rfl) ?_
                refine st (mvI rfl) ?_
                refine st (y_ix hnw.sl sl22 rfl (by omega) rfl (by omega) (by omega)) ?_
                refine st (y_le hnw.sl na3 rfl (by omega) (by omega) rfl) ?_
                refine st (y_add rfl rfl (by omega)) ?_
                refine st (y_ix hnw.sl sl22 rfl (by omega) rfl (by omega) (by omega)) ?_
                refine sd0 (d_se (j := 0) (e' := (el b (u : Int) + 1)) hnw sz3 rfl rfl rfl (by omega) (by omega) (Nat.le_of_ble_eq_true rfl) rfl ?_)
                intro w69 hs71 ho70 hnw'
                have hrhnw := hnw.rng
                clear hnw; have hnw := hnw'; clear hnw'
                have hz72 := ho70.size
                replace hL0 := hL0.out ho70 (by first | omega | (simp only [blk_some, hi1_some] at *; omega))
                replace hL1 := hL1.out ho70 (by first | omega | (simp only [blk_some, hi1_some] at *; omega))
                replace hE := hE.step ho70 (by first | omega | (simp only [blk_some, hi1_some] at *; omega))
                replace hP := hP.out ho70 (by first | omega | (simp only [blk_some, hi1_some] at *; omega))
                replace hx := hx.out ho70 (by first | omega | (simp only [blk_some, hi1_some] at *; omega))
                replace hO1 := hO1.out ho70 (by first | omega | (simp only [blk_some, hi1_some] at *; omega))
                replace hSf := hSf.out ho70 (by first | omega | (simp only [blk_some, hi1_some] at *; omega))
                replace hlp0 := hlp0.step ho70 (by first | omega | (simp only [blk_some, hi1_some] at *; omega))
                replace hO7 := hO7.out ho70 (by first | omega | (simp only [blk_some, hi1_some] at *; omega))
                replace hlp1 := hlp1.step ho70 (by first | omega | (simp only [blk_some, hi1_some] at *; omega))
                rw [Int.toNat_natCast] at hnw
                replace hnw : Ow 3 encI 1 zn zN w69 nad nc (nxA b u) := hnw
                refine rg_end ?_
                refine n_then ?_
                refine wp_seq ?_
                refine wp_seq ?_
                refine rg ?_
                refine st (mvS rfl) ?_
                refine st (mvS rfl) ?_
                refine st (mvS rfl) ?_
                refine sc cl19 (law36_indexM_ok rows _ _ _ _ (nxA b u) _ _ _ _ _ hP (by omega) (Ow.sl hnw) hsm hgn at_.length (by omega)) rfl ?_
                rintro v77 w73 ⟨rfl, ho74⟩
                have hz78 := ho74.size
                replace hL0 := hL0.ext ho74
                replace hL1 := hL1.ext ho74
                replace hE := hE.step ho74 (.inl (Nat.le_refl _))
                replace hP := hP.ext ho74
                replace hx := hx.ext ho74
                replace hO1 := hO1.ext ho74
                replace hSf := hSf.ext ho74
                replace hlp0 := hlp0.step ho74 (.inl (Nat.le_refl _))
                replace hO7 := hO7.ext ho74
                replace hnw := hnw.ext ho74
                replace hlp1 := hlp1.step ho74 (.inl (Nat.le_refl _))
                refine st (y_ix hSf sl31 rfl (rfl) rfl (by omega) (by omega)) ?_
                refine st (y_le hSf na4 rfl (by omega) (by omega) rfl) ?_
                refine rg_end ?_
                refine n_then ?_
                refine cnd rfl (fun hc5 => ?_) (fun hc5 => ?_)
                ·
                  try simp only [decide_eq_true_eq, decide_eq_false_iff_not, Bool.not_eq_true', Bool.not_eq_false', Bool.and_eq_true, Bool.or_eq_true, Bool.or_eq_false_iff, Bool.cond_true_right, Bool.cond_false_right, Bool.cond_true_left, Bool.cond_false_left, ne_eq, Decidable.not_not, bne_iff_ne, beq_iff_eq, beq_eq_false_iff_ne, Bool.not_true, Bool.not_false] at hc5
                  exact absurd ((hrc.2 _ hgn).1 hc5).1 (hlt u (by omega) humv)
                ·
                  try simp only [decide_eq_true_eq, decide_eq_false_iff_not, Bool.not_eq_true', Bool.not_eq_false', Bool.and_eq_true, Bool.or_eq_true, Bool.or_eq_false_iff, Bool.cond_true_right, Bool.cond_false_right, Bool.cond_true_left, Bool.cond_false_left, ne_eq, Decidable.not_not, bne_iff_ne, beq_iff_eq, beq_eq_false_iff_ne, Bool.not_true, Bool.not_false] at hc5
                  refine wp_skip ?_
                  refine n_then ?_
                  refine rg ?_
                  refine st (mvS rfl) ?_
                  refine st (mvI rfl) ?_
                  refine st (y_ix hnw.sl sl22 rfl (by omega) rfl (by omega) (by omega)) ?_
                  refine st (y_le hnw.sl na3 rfl (by omega) (by omega) rfl) ?_
                  refine st (y_sub rfl rfl (by omega)) ?_
                  refine st (y_ix hnw.sl sl22 rfl (by omega) rfl (by omega) (by omega)) ?_
                  refine sd0 (d_se (j := 0) (e' := (el (nxA b u) (u : Int) - 1)) hnw sz3 rfl rfl rfl (by omega) (by omega) (Nat.le_of_ble_eq_true rfl) rfl ?_)
                  intro w79 hs81 ho80 hnw'
                  have hrhnw := hnw.rng
                  clear hnw; have hnw := hnw'; clear hnw'
                  have hz82 := ho80.size
                  replace hL0 := hL0.out ho80 (by first | omega | (simp only [blk_some, hi1_some] at *; omega))
                  replace hL1 := hL1.out ho80 (by first | omega | (simp only [blk_some, hi1_some] at *; omega))
                  replace hE := hE.step ho80 (by first | omega | (simp only [blk_some, hi1_some] at *; omega))
                  replace hP := hP.out ho80 (by first | omega | (simp only [blk_some, hi1_some] at *; omega))
                  replace hx := hx.out ho80 (by first | omega | (simp only [blk_some, hi1_some] at *; omega))
                  replace hO1 := hO1.out ho80 (by first | omega | (simp only [blk_some, hi1_some] at *; omega))
                  replace hSf := hSf.out ho80 (by first | omega | (simp only [blk_some, hi1_some] at *; omega))
                  replace hlp0 := hlp0.step ho80 (by first | omega | (simp only [blk_some, hi1_some] at *; omega))
                  replace hO7 := hO7.out ho80 (by first | omega | (simp only [blk_some, hi1_some] at *; omega))
                  replace hlp1 := hlp1.step ho80 (by first | omega | (simp only [blk_some, hi1_some] at *; omega))
                  rw [Int.toNat_natCast, nx_back (by omega)] at hnw
                  refine rg_end ?_
                  refine n_blk ?_
                  refine n_then ?_
                  refine rg ?_
                  refine st (y_add rfl rfl (by omega)) ?_
                  refine st (mvI rfl) ?_
                  refine rg_end ?_
                  exact n_then ⟨j + 1, _, rfl, same_lk rfl (same_h0), ⟨rfl, trivial⟩, ⟨hlp1, by omega, hnw⟩, by first | omega | (dsimp only; omega)⟩
            ·
              try simp only [decide_eq_true_eq, decide_eq_false_iff_not, Bool.not_eq_true', Bool.not_eq_false', Bool.and_eq_true, Bool.or_eq_true, Bool.or_eq_false_iff, Bool.cond_true_right, Bool.cond_false_right, Bool.cond_true_left, Bool.cond_false_left, ne_eq, Decidable.not_not, bne_iff_ne, beq_iff_eq, beq_eq_false_iff_ne, Bool.not_true, Bool.not_false] at hc3
              refine wp_exit ?_
              refine e_then (e_then (e_blk (?_)))
              refine n_then ?_
              refine rg ?_
              refine st (mvS rfl) ?_
              refine st (mvI rfl) ?_
              refine st (y_ix hnw.sl sl22 rfl (by omega) rfl (by omega) (by omega)) ?_
              refine st (y_le hnw.sl na3 rfl (by omega) (by omega) rfl) ?_
              refine st (y_add rfl rfl (by omega)) ?_
              refine st (y_ix hnw.sl sl22 rfl (by omega) rfl (by omega) (by omega)) ?_
              refine sd0 (d_se (j := 0) (e' := (el b (t : Int) + 1)) hnw sz3 rfl rfl rfl (by omega) (by omega) (Nat.le_of_ble_eq_true rfl) rfl ?_)
              intro w83 hs85 ho84 hnw'
              have hrhnw := hnw.rng
              clear hnw; have hnw := hnw'; clear hnw'
              have hz86 := ho84.size
              replace hL0 := hL0.out ho84 (by first | omega | (simp only [blk_some, hi1_some] at *; omega))
              replace hL1 := hL1.out ho84 (by first | omega | (simp only [blk_some, hi1_some] at *; omega))
              replace hE := hE.step ho84 (by first | omega | (simp only [blk_some, hi1_some] at *; omega))
              replace hP := hP.out ho84 (by first | omega | (simp only [blk_some, hi1_some] at *; omega))
              replace hx := hx.out ho84 (by first | omega | (simp only [blk_some, hi1_some] at *; omega))
              replace hO1 := hO1.out ho84 (by first | omega | (simp only [blk_some, hi1_some] at *; omega))
              replace hSf := hSf.out ho84 (by first | omega | (simp only [blk_some, hi1_some] at *; omega))
              replace hlp0 := hlp0.step ho84 (by first | omega | (simp only [blk_some, hi1_some] at *; omega))
              replace hO7 := hO7.out ho84 (by first | omega | (simp only [blk_some, hi1_some] at *; omega))
              rw [Int.toNat_natCast] at hnw
              replace hnw : Ow 3 encI 1 zn zN w83 nad nc (nxA b t) := hnw
              refine rg_end ?_
              refine n_blk ?_
              refine n_then ?_
              refine rg ?_
              refine st (y_add rfl rfl (by omega)) ?_
              refine st (mvI rfl) ?_
              refine rg_end ?_
              exact n_then ⟨(k + 1, nxA b t), _, rfl, same_lk rfl (same_hav rfl (same_lk rfl (same_h0))), ⟨rfl, trivial⟩, ⟨hlp0, by omega, hpb1, hgb.nx htl hmv, hel_nx hva hgb hnb htl hmv, hnw⟩, by first | omega | (dsimp only; omega)⟩
    ·
      try simp only [decide_eq_true_eq, decide_eq_false_iff_not, Bool.not_eq_true', Bool.not_eq_false', Bool.and_eq_true, Bool.or_eq_true, Bool.or_eq_false_iff, Bool.cond_true_right, Bool.cond_false_right, Bool.cond_true_left, Bool.cond_false_left, ne_eq, Decidable.not_not, bne_iff_ne, beq_iff_eq, beq_eq_false_iff_ne, Bool.not_true, Bool.not_false] at hc1
      rw [List.drop_eq_nil_of_le (by omega)] at hpb
      have hlf := hpb.inv0
      have hbl := hgb.len
      refine wp_exit ?_
      refine e_then (e_then (e_blk (?_)))
      refine n_then ?_
      refine wp_seq ?_
      refine rg ?_
      refine sc cl16 (law36_awake_ok _) rfl ?_
      rintro v91 w87 ⟨rfl, ho88⟩
      have hz92 := ho88.size
      replace hL0 := hL0.ext ho88
      replace hL1 := hL1.ext ho88
      replace hE := hE.step ho88 (.inl (Nat.le_refl _))
      replace hP := hP.ext ho88
      replace hx := hx.ext ho88
      replace hO1 := hO1.ext ho88
      replace hSf := hSf.ext ho88
      replace hnw := hnw.ext ho88
      refine st (mvB rfl) ?_
      refine stg rfl rfl rfl (mvS rfl) ?_
      refine stg rfl rfl rfl (mvS rfl) ?_
      refine scg rfl rfl rfl cl21 (ref35_LeftM_ok rows _ _ _ _ b _ _ _ _ _ hP (by omega) (Ow.sl hnw) (by omega) at_.length (by omega)) rfl ?_
      rintro v97 w93 ⟨rfl, ho94⟩
      rw [hlf]
      have hz98 := ho94.size
      replace hL0 := hL0.ext ho94
      replace hL1 := hL1.ext ho94
      replace hE := hE.step ho94 (.inl (Nat.le_refl _))
      replace hP := hP.ext ho94
      replace hx := hx.ext ho94
      replace hO1 := hO1.ext ho94
      replace hSf := hSf.ext ho94
      replace hnw := hnw.ext ho94
      refine st (y_pickT rfl rfl (v := .bool _) rfl) ?_
      refine st (asB rfl) ?_
      refine rg_end ?_
      refine n_then ?_
      refine wp_ret ?_
      refine ret1 (v := (.bool _)) Try.results4 rfl ?_
      exact ⟨rfl, hE⟩

set_option maxHeartbeats 4000000 in
set_option maxRecDepth 100000 in
theorem law36_DeadlockAdmit_ok (a0 : Option Addr) (c0 : Nat) (l0 : List Int) (a1 : Option Addr) (c1 : Nat) (l1 : List Int) (w : World) (hL0 : Ints 0 w.heap.size w a0 l0) (hl0 : (l0.length : Int) ≤ 9223372036854775807) (hL1 : Ints 0 w.heap.size w a1 l1) (hl1 : (l1.length : Int) ≤ 9223372036854775807)  : Cal Try.prog 8 [.slice a0 l0.length c0, .slice a1 l1.length c1] w (fun v w' => v = .bool true ∧ Ext w w') := by
  have hE : Out 0 0 w w := Out.refl _ _ w
  refine enter Try.func8 rfl Try.ntmps8 rfl ?_
  refine wp_seq ?_
  refine rg ?_
  refine st (asB rfl) ?_
  refine rg_end ?_
  refine n_then ?_
  refine wp_seq ?_
  refine rg ?_
  refine st (mvS rfl) ?_
  refine sc cl13 (keep2_Paths_ok _ _ _ _ _ _ hL0 hl0) rfl ?_
  rintro v5 w1 ⟨rows, ap, cp, rfl, hsm, hcp, hP, ho2⟩
  have hva := hsm.va
  have hn3 := hsm.n3
  have hn1 := hsm.n1
  have hln := sm_len hsm
  have hz6 := ho2.size
  replace hL0 := hL0.ext ho2
  replace hL1 := hL1.ext ho2
  replace hE := hE.step ho2 (.inl (Nat.le_refl _))
  refine st (asS rfl) ?_
  refine rg_end ?_
  refine n_then ?_
  refine wp_seq ?_
  refine rg ?_
  refine st (mvS rfl) ?_
  refine st (mvS rfl) ?_
  refine sc cl14 (keep2_At_ok rows _ _ _ _ _ _ _ _ _ _ hP (by omega) hL1 hl1 hsm) rfl ?_
  rintro v11 w7 ⟨ax, cx, at_, rfl, hg, hcx, hx, ho8⟩
  have hl := hg.len
  have hz12 := ho8.size
  replace hL0 := hL0.ext ho8
  replace hL1 := hL1.ext ho8
  replace hE := hE.step ho8 (.inl (Nat.le_refl _))
  replace hP := hP.ext ho8
  refine st (asS rfl) ?_
  refine rg_end ?_
  refine n_then ?_
  refine wp_seq ?_
  refine wp_seq ?_
  refine rg ?_
  refine st (mvS rfl) ?_
  refine st (mvS rfl) ?_
  refine sc cl15 (ref35_CheckState_ok rows _ _ _ _ at_ _ _ _ _ _ hP (by omega) (Ow.sl hx) hln (by omega)) rfl ?_
  rintro v17 w13 ⟨k0, rfl, hck0, ho14⟩
  have hz18 := ho14.size
  replace hL0 := hL0.ext ho14
  replace hL1 := hL1.ext ho14
  replace hE := hE.step ho14 (.inl (Nat.le_refl _))
  replace hP := hP.ext ho14
  replace hx := hx.ext ho14
  refine st (y_neq rfl rfl) ?_
  refine rg_end ?_
  refine n_then ?_
  refine cnd rfl (fun hc0 => ?_) (fun hc0 => ?_)
  ·
    try simp only [decide_eq_true_eq, decide_eq_false_iff_not, Bool.not_eq_true', Bool.not_eq_false', Bool.and_eq_true, Bool.or_eq_true, Bool.or_eq_false_iff, Bool.cond_true_right, Bool.cond_false_right, Bool.cond_true_left, Bool.cond_false_left, ne_eq, Decidable.not_not, bne_iff_ne, beq_iff_eq, beq_eq_false_iff_ne, Bool.not_true, Bool.not_false] at hc0
    refine wp_seq ?_
    refine rg ?_
    refine sc cl16 (law36_awake_ok _) rfl ?_
    rintro v23 w19 ⟨rfl, ho20⟩
    have hz24 := ho20.size
    replace hL0 := hL0.ext ho20
    replace hL1 := hL1.ext ho20
    replace hE := hE.step ho20 (.inl (Nat.le_refl _))
    replace hP := hP.ext ho20
    replace hx := hx.ext ho20
    refine st (asB rfl) ?_
    refine rg_end ?_
    refine n_then ?_
    refine wp_ret ?_
    refine r_then (ret1 (v := (.bool _)) Try.results8 rfl ?_)
    exact ⟨rfl, hE⟩
  ·
    try simp only [decide_eq_true_eq, decide_eq_false_iff_not, Bool.not_eq_true', Bool.not_eq_false', Bool.and_eq_true, Bool.or_eq_true, Bool.or_eq_false_iff, Bool.cond_true_right, Bool.cond_false_right, Bool.cond_true_left, Bool.cond_false_left, ne_eq, Decidable.not_not, bne_iff_ne, beq_iff_eq, beq_eq_false_iff_ne, Bool.not_true, Bool.not_false] at hc0
    have hnh : ¬ Hel rows at_ := by
      rcases ck_cases hck0 hva hg with q | q
      · exact q.2
      · omega
    refine wp_skip ?_
    refine n_then ?_
    refine wp_seq ?_
    refine rg ?_
    refine st (mvS rfl) ?_
    refine sc cl18 (law36_reach_ok rows _ _ _ _ _ hP (by omega) hsm) rfl ?_
    rintro v29 w25 ⟨rad, rc, Sf, rfl, hSf, hrc, ho26⟩
    have hSl := hrc.1
    have hz30 := ho26.size
    replace hL0 := hL0.ext ho26
    replace hL1 := hL1.ext ho26
    replace hE := hE.step ho26 (.inl (Nat.le_refl _))
    replace hP := hP.ext ho26
    replace hx := hx.ext ho26
    refine st (asS rfl) ?_
    refine rg_end ?_
    refine n_then ?_
    refine wp_seq ?_
    refine rg ?_
    refine st (mvS rfl) ?_
    refine st (mvS rfl) ?_
    refine sc cl21 (ref35_Left_ok rows _ _ _ _ at_ _ _ _ _ _ hP (by omega) (Ow.sl hx) hl) rfl ?_
    rintro v35 w31 ⟨rfl, ho32⟩
    have hz36 := ho32.size
    replace hL0 := hL0.ext ho32
    replace hL1 := hL1.ext ho32
    replace hE := hE.step ho32 (.inl (Nat.le_refl _))
    replace hP := hP.ext ho32
    replace hx := hx.ext ho32
    replace hSf := hSf.ext ho32
    refine st (asB rfl) ?_
    refine rg_end ?_
    refine n_then ?_
    refine wp_seq ?_
    refine wp_seq ?_
    refine rg ?_
    refine st (mvS rfl) ?_
    refine st (y_len Try.underlying23 rfl) ?_
    refine st (mvI rfl) ?_
    refine rg_end ?_
    refine n_then ?_
    refine wp_block ?_
    obtain ⟨z1, hz1⟩ : ∃ z, z = w31.heap.size := ⟨_, rfl⟩
    refine lp (γ := Nat × Bool) [4, 8, 9, 10, 11, 12, 30, 31, 32, 33, 34, 35, 36, 37, 38, 39, 40, 41, 42, 43, 44, 45, 46, 47, 48, 49, 50, 51, 52, 53, 54, 55, 56, 57, 58, 59, 60, 61, 62, 63, 64, 65, 66, 67, 68, 69, 70, 71, 72, 73, 74, 75, 76, 77, 78, 79, 80, 81, 82, 83, 84, 85, 86, 87, 88, 89, 90, 91, 92, 93, 94, 95, 96, 97, 98, 99, 100, 101, 102, 103, 104, 105, 106, 107, 108, 109, 110, 111, 112, 113, 114, 115, 116, 117, 118, 119, 120] (fun ⟨k, so⟩ => [(30, .int .i64 (k : Int)), (8, .bool so)]) (fun ⟨k, so⟩ w_ => Out z1 z1 w31 w_ ∧ (k : Int) ≤ rows.length ∧ (so = true ↔ leftB rows at_ = true ∨ ∃ u, u < k ∧ movB rows at_ (u : Int) = true ∧ Safe rows (nxA at_ u))) (fun ⟨k, so⟩ => rows.length - k) (0, _) ⟨rfl, rfl, trivial⟩ ⟨Out.refl _ _ _, by omega, (by simp)⟩ ?_
    rintro ⟨k, so⟩ hav_ w37 ⟨ho38, hk_, hso⟩
    have hlp0 := ho38
    have hz39 := ho38.size
    replace hL0 := hL0.out ho38 (by first | omega | (simp only [blk_some, hi1_some] at *; omega))
    replace hL1 := hL1.out ho38 (by first | omega | (simp only [blk_some, hi1_some] at *; omega))
    replace hE := hE.step ho38 (by first | omega | (simp only [blk_some, hi1_some] at *; omega))
    replace hP := hP.out ho38 (by first | omega | (simp only [blk_some, hi1_some] at *; omega))
    have hrnhx := hx.rng
    replace hx := hx.out ho38 (by first | omega | (simp only [blk_some, hi1_some] at *; omega))
    replace hSf := hSf.out ho38 (by first | omega | (simp only [blk_some, hi1_some] at *; omega))
    refine wp_seq ?_
    refine rg ?_
    refine st (y_lss rfl rfl) ?_
    refine rg_end ?_
    refine n_then ?_
    refine wp_seq ?_
    refine cnd rfl (fun hc1 => ?_) (fun hc1 => ?_)
    ·
      try simp only [decide_eq_true_eq, decide_eq_false_iff_not, Bool.not_eq_true', Bool.not_eq_false', Bool.and_eq_true, Bool.or_eq_true, Bool.or_eq_false_iff, Bool.cond_true_right, Bool.cond_false_right, Bool.cond_true_left, Bool.cond_false_left, ne_eq, Decidable.not_not, bne_iff_ne, beq_iff_eq, beq_eq_false_iff_ne, Bool.not_true, Bool.not_false] at hc1
      have hkl : k < rows.length := by omega
      have hgk := hg.rng k hkl
      have hl2 := (va_row hva (k := k) (by omega)).l2
      have hxt := nx_t (at_ := at_) (t := k) (by omega)
      have hnl : (nxA at_ k).length = rows.length := by rw [nx_len]; exact hl
      refine wp_skip ?_
      refine n_then ?_
      refine wp_seq ?_
      refine wp_block ?_
      refine wp_seq ?_
      refine rg ?_
      refine st (mvI rfl) ?_
      refine st (asI rfl) ?_
      refine rg_end ?_
      refine n_then ?_
      refine wp_seq ?_
      refine rg ?_
      refine st (mvS rfl) ?_
      refine st (mvS rfl) ?_
      refine st (mvI rfl) ?_
      refine sc cl24 (dead_Admit_ok rows _ _ _ _ at_ _ _ _ _ (k : Int) 1048576 _ hP (by omega) (Ow.sl hx) hln (by omega)) rfl ?_
      rintro v44 w40 ⟨n1, e1, k1, rfl, hck1, had1, ho41⟩
      have hall := ad_all hsm hg hnh hkl hck1 had1
      have hz45 := ho41.size
      replace hL0 := hL0.ext ho41
      replace hL1 := hL1.ext ho41
      replace hE := hE.step ho41 (.inl (Nat.le_refl _))
      replace hP := hP.ext ho41
      replace hx := hx.ext ho41
      replace hSf := hSf.ext ho41
      replace hlp0 := hlp0.step ho41 (.inl (Nat.le_refl _))
      refine st (mvT rfl) ?_
      refine st (y_ext rfl rfl) ?_
      refine st (y_ext rfl rfl) ?_
      refine st (asI rfl) ?_
      refine st (asI rfl) ?_
      refine rg_end ?_
      refine n_then ?_
      refine wp_seq ?_
      refine rg ?_
      refine st (mvS rfl) ?_
      obtain ⟨zn, hzn⟩ : ∃ z, z = w40.heap.size := ⟨_, rfl⟩
      have hnw := Ow.nil (E := 3) (sz := 1) (enc := encI) (lo := zn) (hi := 0) (w := w40) (fun _ => rfl)
      have hrhnw := hnw.rng
      refine sd (d_appN (xs := at_) hnw sl22 infoz3 (by decide) rfl rfl rfl (rfl) (hx.sl) (fun _ => rfl) (by simp; unfold maxLen; omega) (by simp; omega) (by omega) (Nat.zero_le _) ?_)
      intro nad nc w46 ho47 hnw'
      have hs48 := ho47.size
      clear hnw; have hnw := hnw'; clear hnw'
      have hz51 := ho47.size
      replace hL0 := hL0.out ho47 (by first | omega | (simp only [blk_some, hi1_some] at *; omega))
      replace hL1 := hL1.out ho47 (by first | omega | (simp only [blk_some, hi1_some] at *; omega))
      replace hE := hE.step ho47 (by first | omega | (simp only [blk_some, hi1_some] at *; omega))
      replace hP := hP.out ho47 (by first | omega | (simp only [blk_some, hi1_some] at *; omega))
      replace hx := hx.out ho47 (by first | omega | (simp only [blk_some, hi1_some] at *; omega))
      replace hSf := hSf.out ho47 (by first | omega | (simp only [blk_some, hi1_some] at *; omega))
      replace hlp0 := hlp0.step ho47 (by first | omega | (simp only [blk_some, hi1_some] at *; omega))
      simp only [List.nil_append] at hnw ⊢
      have hnwr := hnw.rng
      obtain ⟨zN, hzN⟩ : ∃ z, z = w46.heap.size := ⟨_, rfl⟩
      replace hnw := hnw.wide (show _ ≤ zN by omega)
      refine st (asS rfl) ?_
      refine rg_end ?_
      refine n_then ?_
      refine wp_seq ?_
      refine rg ?_
      refine st (mvS rfl) ?_
      refine st (mvI rfl) ?_
      refine st (y_ix hnw.sl sl22 rfl (by omega) rfl (by omega) (by omega)) ?_
      refine st (y_le hnw.sl na3 rfl (by omega) (by omega) rfl) ?_
      refine st (y_add rfl rfl (by omega)) ?_
      refine st (y_ix hnw.sl sl22 rfl (by omega) rfl (by omega) (by omega)) ?_
      refine sd0 (d_se (j := 0) (e' := (el at_ (k : Int) + 1)) hnw sz3 rfl rfl rfl (by omega) (by omega) (Nat.le_of_ble_eq_true rfl) rfl ?_)
      intro w52 hs54 ho53 hnw'
      have hrhnw := hnw.rng
      clear hnw; have hnw := hnw'; clear hnw'
      have hz55 := ho53.size
      replace hL0 := hL0.out ho53 (by first | omega | (simp only [blk_some, hi1_some] at *; omega))
      replace hL1 := hL1.out ho53 (by first | omega | (simp only [blk_some, hi1_some] at *; omega))
      replace hE := hE.step ho53 (by first | omega | (simp only [blk_some, hi1_some] at *; omega))
      replace hP := hP.out ho53 (by first | omega | (simp only [blk_some, hi1_some] at *; omega))
      replace hx := hx.out ho53 (by first | omega | (simp only [blk_some, hi1_some] at *; omega))
      replace hSf := hSf.out ho53 (by first | omega | (simp only [blk_some, hi1_some] at *; omega))
      replace hlp0 := hlp0.step ho53 (by first | omega | (simp only [blk_some, hi1_some] at *; omega))
      rw [Int.toNat_natCast] at hnw
      replace hnw : Ow 3 encI 1 zn zN w52 nad nc (nxA at_ k) := hnw
      refine rg_end ?_
      refine n_then ?_
      refine wp_seq ?_
      refine rg ?_
      refine st (mvI rfl) ?_
      refine rg_end ?_
      refine n_then ?_
      refine wp_block ?_
      refine wp_seq ?_
      refine rg ?_
      refine st (y_eql rfl rfl) ?_
      refine st (asB rfl) ?_
      refine rg_end ?_
      refine n_then ?_
      refine cnd rfl (fun hc2 => ?_) (fun hc2 => ?_)
      ·
        try simp only [decide_eq_true_eq, decide_eq_false_iff_not, Bool.not_eq_true', Bool.not_eq_false', Bool.and_eq_true, Bool.or_eq_true, Bool.or_eq_false_iff, Bool.cond_true_right, Bool.cond_false_right, Bool.cond_true_left, Bool.cond_false_left, ne_eq, Decidable.not_not, bne_iff_ne, beq_iff_eq, beq_eq_false_iff_ne, Bool.not_true, Bool.not_false] at hc2
        have hal : movB rows at_ (k : Int) = true ∧ Safe rows (nxA at_ k) := by
          rcases hall with q | q | q
          · exact q.2
          · omega
          · omega
        have hmv := hal.1
        have hgn := hg.nx hkl hmv
        have hnn := hel_nx hva hg hnh hkl hmv
        have hir := idx_rng (rows := rows) (a := nxA at_ k) (k := rows.length) hgn.rng
        have hmlt := movB_lt hmv
        have hso1 := so_T (lf := leftB rows at_ = true) (P := fun u => movB rows at_ (u : Int) = true ∧ Safe rows (nxA at_ u)) (j := k) hal
        refine wp_seq ?_
        refine wp_seq ?_
        refine rgD 21 (fun w_ => Ext w52 w_) (fun i => Nat.beq i 13 || Nat.beq i 20) mixed (by kernel_rfl) ?_
        intro w56 ho57 hs58
        refine ⟨ho57, ?_⟩
        have hx59 := ho57
        refine tn rfl (fun _ hG => mvS rfl) ?_
        refine tn rfl (fun _ hG => mvI rfl) ?_
        refine tn rfl (fun _ hG => y_ix (hnw.ext hG).sl sl22 rfl (by omega) rfl (by omega) (by omega)) ?_
        refine tn rfl (fun _ hG => y_le (hnw.ext hG).sl na3 rfl (by omega) (by omega) rfl) ?_
        refine tn rfl (fun _ hG => mvS rfl) ?_
        refine tn rfl (fun _ hG => mvI rfl) ?_
        refine tn rfl (fun _ hG => y_ix (hP.tb.ext hG) sl23 rfl (rfl) rfl (by omega) (by omega)) ?_
        refine tn rfl (fun _ hG => y_le (hP.tb.ext hG) na35 rfl (by omega) (by omega) rfl) ?_
        refine tn rfl (fun _ hG => y_len Try.underlying35 rfl) ?_
        refine tn rfl (fun _ hG => y_gtr rfl rfl) ?_
        refine tn rfl (fun _ hG => mvB rfl) ?_
        refine gspT 61 rfl (fun hg60 => ?_) (fun hg60 => ?_)
        ·
          have hg60n := hg60; try simp only [decide_eq_true_eq, decide_eq_false_iff_not, Bool.not_eq_true', Bool.not_eq_false', Bool.and_eq_true, Bool.or_eq_true, Bool.or_eq_false_iff, Bool.cond_true_right, Bool.cond_false_right, Bool.cond_true_left, Bool.cond_false_left, ne_eq, Decidable.not_not, bne_iff_ne, beq_iff_eq, beq_eq_false_iff_ne, Bool.not_true, Bool.not_false] at hg60n
          exfalso; omega
        ·
          have hg60n := hg60; try simp only [decide_eq_true_eq, decide_eq_false_iff_not, Bool.not_eq_true', Bool.not_eq_false', Bool.and_eq_true, Bool.or_eq_true, Bool.or_eq_false_iff, Bool.cond_true_right, Bool.cond_false_right, Bool.cond_true_left, Bool.cond_false_left, ne_eq, Decidable.not_not, bne_iff_ne, beq_iff_eq, beq_eq_false_iff_ne, Bool.not_true, Bool.not_false] at hg60n
          refine tng rfl rfl rfl hg60 (fun _ hG => mvS rfl) ?_
          refine tng rfl rfl rfl hg60 (fun _ hG => mvS rfl) ?_
          refine tcg rfl rfl rfl hg60 cl15 (ref35_CheckStateM_ok rows _ _ _ _ (nxA at_ k) _ _ _ _ _ (hP.ext hx59) (by omega) (Ow.sl (hnw.ext hx59)) hln (by omega) at_.length (by omega)) rfl ?_
          rintro v65 w61 ⟨k6, rfl, hck6, ho62⟩
          have hk6 := hck6.of hva hgn hnn
          have hx66 := hx59.step ho62 (.inl (Nat.le_refl _))
          have hz67 := ho62.size
          refine ⟨hx66, ?_⟩
          refine tng rfl rfl rfl hg60 (fun _ hG => y_neq rfl rfl) ?_
          refine tn rfl (fun _ hG => y_pickF rfl hg60 (v := .bool _) rfl) ?_
          refine tn rfl (fun _ hG => mvB rfl) ?_
          refine gspT 67 rfl (fun hg68 => ?_) (fun hg68 => ?_)
          ·
            have hg68n := hg68; try simp only [decide_eq_true_eq, decide_eq_false_iff_not, Bool.not_eq_true', Bool.not_eq_false', Bool.and_eq_true, Bool.or_eq_true, Bool.or_eq_false_iff, Bool.cond_true_right, Bool.cond_false_right, Bool.cond_true_left, Bool.cond_false_left, ne_eq, Decidable.not_not, bne_iff_ne, beq_iff_eq, beq_eq_false_iff_ne, Bool.not_true, Bool.not_false] at hg68n
            exfalso; omega
          ·
            have hg68n := hg68; try simp only [decide_eq_true_eq, decide_eq_false_iff_not, Bool.not_eq_true', Bool.not_eq_false', Bool.and_eq_true, Bool.or_eq_true, Bool.or_eq_false_iff, Bool.cond_true_right, Bool.cond_false_right, Bool.cond_true_left, Bool.cond_false_left, ne_eq, Decidable.not_not, bne_iff_ne, beq_iff_eq, beq_eq_false_iff_ne, Bool.not_true, Bool.not_false] at hg68n
            refine tng rfl rfl rfl hg68 (fun _ hG => mvS rfl) ?_
            refine tng rfl rfl rfl hg68 (fun _ hG => mvS rfl) ?_
            refine tng rfl rfl rfl hg68 (fun _ hG => mvS rfl) ?_
            refine tcg rfl rfl rfl hg68 cl19 (law36_indexM_ok rows _ _ _ _ (nxA at_ k) _ _ _ _ _ (hP.ext hx66) (by omega) (Ow.sl (hnw.ext hx66)) hsm hgn at_.length (by omega)) rfl ?_
            rintro v73 w69 ⟨rfl, ho70⟩
            have hx74 := hx66.step ho70 (.inl (Nat.le_refl _))
            have hz75 := ho70.size
            refine ⟨hx74, ?_⟩
            refine t_end ?_
            have hz76 := hx74.size
            replace hL0 := hL0.ext hx74
            replace hL1 := hL1.ext hx74
            replace hE := hE.step hx74 (.inl (Nat.le_refl _))
            replace hP := hP.ext hx74
            replace hx := hx.ext hx74
            replace hSf := hSf.ext hx74
            replace hlp0 := hlp0.step hx74 (.inl (Nat.le_refl _))
            replace hnw := hnw.ext hx74
            refine stg rfl rfl hg68 (y_ix hSf sl31 rfl (rfl) rfl (by omega) (by omega)) ?_
            refine stg rfl rfl hg68 (y_le hSf na4 rfl (by omega) (by omega) rfl) ?_
            refine stg rfl rfl hg68 (y_not rfl) ?_
            refine st (y_pickF rfl hg68 (v := .bool _) rfl) ?_
            refine rg_end ?_
            refine n_then ?_
            refine cnd rfl (fun hc3 => ?_) (fun hc3 => ?_)
            ·
              try simp only [decide_eq_true_eq, decide_eq_false_iff_not, Bool.not_eq_true', Bool.not_eq_false', Bool.and_eq_true, Bool.or_eq_true, Bool.or_eq_false_iff, Bool.cond_true_right, Bool.cond_false_right, Bool.cond_true_left, Bool.cond_false_left, ne_eq, Decidable.not_not, bne_iff_ne, beq_iff_eq, beq_eq_false_iff_ne, Bool.not_true, Bool.not_false] at hc3
              exact absurd ((hrc.2 _ hgn).2 ⟨hal.2, hnn⟩) (by rw [hc3]; decide)
            ·
              try simp only [decide_eq_true_eq, decide_eq_false_iff_not, Bool.not_eq_true', Bool.not_eq_false', Bool.and_eq_true, Bool.or_eq_true, Bool.or_eq_false_iff, Bool.cond_true_right, Bool.cond_false_right, Bool.cond_true_left, Bool.cond_false_left, ne_eq, Decidable.not_not, bne_iff_ne, beq_iff_eq, beq_eq_false_iff_ne, Bool.not_true, Bool.not_false] at hc3
              refine wp_skip ?_
              refine n_then ?_
              refine rg ?_
              refine st (asB rfl) ?_
              refine rg_end ?_
              refine n_blk ?_
              refine n_blk ?_
              refine n_then ?_
              refine rg ?_
              refine st (y_add rfl rfl (by omega)) ?_
              refine st (mvI rfl) ?_
              refine rg_end ?_
              exact n_then ⟨(k + 1, _), _, rfl, same_lk rfl (same_h0), ⟨rfl, rfl, trivial⟩, ⟨hlp0, by omega, hso1⟩, by first | omega | (dsimp only; omega)⟩
      ·
        try simp only [decide_eq_true_eq, decide_eq_false_iff_not, Bool.not_eq_true', Bool.not_eq_false', Bool.and_eq_true, Bool.or_eq_true, Bool.or_eq_false_iff, Bool.cond_true_right, Bool.cond_false_right, Bool.cond_true_left, Bool.cond_false_left, ne_eq, Decidable.not_not, bne_iff_ne, beq_iff_eq, beq_eq_false_iff_ne, Bool.not_true, Bool.not_false] at hc2
        refine wp_seq ?_
        refine rg ?_
        refine st (y_eql rfl rfl) ?_
        refine st (asB rfl) ?_
        refine rg_end ?_
        refine n_then ?_
        refine cnd rfl (fun hc4 => ?_) (fun hc4 => ?_)
        ·
          try simp only [decide_eq_true_eq, decide_eq_false_iff_not, Bool.not_eq_true', Bool.not_eq_false', Bool.and_eq_true, Bool.or_eq_true, Bool.or_eq_false_iff, Bool.cond_true_right, Bool.cond_false_right, Bool.cond_true_left, Bool.cond_false_left, ne_eq, Decidable.not_not, bne_iff_ne, beq_iff_eq, beq_eq_false_iff_ne, Bool.not_true, Bool.not_false] at hc4
          have hal : movB rows at_ (k : Int) = true ∧ ¬ Safe rows (nxA at_ k) := by
            rcases hall with q | q | q
            · omega
            · exact q.2
            · omega
          have hmv := hal.1
          have hgn := hg.nx hkl hmv
          have hnn := hel_nx hva hg hnh hkl hmv
          have hir := idx_rng (rows := rows) (a := nxA at_ k) (k := rows.length) hgn.rng
          have hmlt := movB_lt hmv
          have hso1 := so_F hso (fun q => hal.2 q.2)
          refine wp_seq ?_
          refine rgD 21 (fun w_ => Ext w52 w_) (fun i => Nat.beq i 13 || Nat.beq i 20) mixed (by kernel_rfl) ?_
          intro w77 ho78 hs79
          refine ⟨ho78, ?_⟩
          have hx80 := ho78
          refine tn rfl (fun _ hG => mvS rfl) ?_
          refine tn rfl (fun _ hG => mvI rfl) ?_
          refine tn rfl (fun _ hG => y_ix (hnw.ext hG).sl sl22 rfl (by omega) rfl (by omega) (by omega)) ?_
          refine tn rfl (fun _ hG => y_le (hnw.ext hG).sl na3 rfl (by omega) (by omega) rfl) ?_
          refine tn rfl (fun _ hG => mvS rfl) ?_
          refine tn rfl (fun _ hG => mvI rfl) ?_
          refine tn rfl (fun _ hG => y_ix (hP.tb.ext hG) sl23 rfl (rfl) rfl (by omega) (by omega)) ?_
          refine tn rfl (fun _ hG => y_le (hP.tb.ext hG) na35 rfl (by omega) (by omega) rfl) ?_
          refine tn rfl (fun _ hG => y_len Try.underlying35 rfl) ?_
          refine tn rfl (fun _ hG => y_gtr rfl rfl) ?_
          refine tn rfl (fun _ hG => mvB rfl) ?_
          refine gspT 88 rfl (fun hg81 => ?_) (fun hg81 => ?_)
          ·
            have hg81n := hg81; try simp only [decide_eq_true_eq, decide_eq_false_iff_not, Bool.not_eq_true', Bool.not_eq_false', Bool.and_eq_true, Bool.or_eq_true, Bool.or_eq_false_iff, Bool.cond_true_right, Bool.cond_false_right, Bool.cond_true_left, Bool.cond_false_left, ne_eq, Decidable.not_not, bne_iff_ne, beq_iff_eq, beq_eq_false_iff_ne, Bool.not_true, Bool.not_false] at hg81n
            exfalso; omega
          ·
            have hg81n := hg81; try simp only [decide_eq_true_eq, decide_eq_false_iff_not, Bool.not_eq_true', Bool.not_eq_false', Bool.and_eq_true, Bool.or_eq_true, Bool.or_eq_false_iff, Bool.cond_true_right, Bool.cond_false_right, Bool.cond_true_left, Bool.cond_false_left, ne_eq, Decidable.not_not, bne_iff_ne, beq_iff_eq, beq_eq_false_iff_ne, Bool.not_true, Bool.not_false] at hg81n
            refine tng rfl rfl rfl hg81 (fun _ hG => mvS rfl) ?_
            refine tng rfl rfl rfl hg81 (fun _ hG => mvS rfl) ?_
            refine tcg rfl rfl rfl hg81 cl15 (ref35_CheckStateM_ok rows _ _ _ _ (nxA at_ k) _ _ _ _ _ (hP.ext hx80) (by omega) (Ow.sl (hnw.ext hx80)) hln (by omega) at_.length (by omega)) rfl ?_
            rintro v86 w82 ⟨k6, rfl, hck6, ho83⟩
            have hk6 := hck6.of hva hgn hnn
            have hx87 := hx80.step ho83 (.inl (Nat.le_refl _))
            have hz88 := ho83.size
            refine ⟨hx87, ?_⟩
            refine tng rfl rfl rfl hg81 (fun _ hG => y_neq rfl rfl) ?_
            refine tn rfl (fun _ hG => y_pickF rfl hg81 (v := .bool _) rfl) ?_
            refine tn rfl (fun _ hG => mvB rfl) ?_
            refine gspT 94 rfl (fun hg89 => ?_) (fun hg89 => ?_)
            ·
              have hg89n := hg89; try simp only [decide_eq_true_eq, decide_eq_false_iff_not, Bool.not_eq_true', Bool.not_eq_false', Bool.and_eq_true, Bool.or_eq_true, Bool.or_eq_false_iff, Bool.cond_true_right, Bool.cond_false_right, Bool.cond_true_left, Bool.cond_false_left, ne_eq, Decidable.not_not, bne_iff_ne, beq_iff_eq, beq_eq_false_iff_ne, Bool.not_true, Bool.not_false] at hg89n
              exfalso; omega
            ·
              have hg89n := hg89; try simp only [decide_eq_true_eq, decide_eq_false_iff_not, Bool.not_eq_true', Bool.not_eq_false', Bool.and_eq_true, Bool.or_eq_true, Bool.or_eq_false_iff, Bool.cond_true_right, Bool.cond_false_right, Bool.cond_true_left, Bool.cond_false_left, ne_eq, Decidable.not_not, bne_iff_ne, beq_iff_eq, beq_eq_false_iff_ne, Bool.not_true, Bool.not_false] at hg89n
              refine tng rfl rfl rfl hg89 (fun _ hG => mvS rfl) ?_
              refine tng rfl rfl rfl hg89 (fun _ hG => mvS rfl) ?_
              refine tng rfl rfl rfl hg89 (fun _ hG => mvS rfl) ?_
              refine tcg rfl rfl rfl hg89 cl19 (law36_indexM_ok rows _ _ _ _ (nxA at_ k) _ _ _ _ _ (hP.ext hx87) (by omega) (Ow.sl (hnw.ext hx87)) hsm hgn at_.length (by omega)) rfl ?_
              rintro v94 w90 ⟨rfl, ho91⟩
              have hx95 := hx87.step ho91 (.inl (Nat.le_refl _))
              have hz96 := ho91.size
              refine ⟨hx95, ?_⟩
              refine t_end ?_
              have hz97 := hx95.size
              replace hL0 := hL0.ext hx95
              replace hL1 := hL1.ext hx95
              replace hE := hE.step hx95 (.inl (Nat.le_refl _))
              replace hP := hP.ext hx95
              replace hx := hx.ext hx95
              replace hSf := hSf.ext hx95
              replace hlp0 := hlp0.step hx95 (.inl (Nat.le_refl _))
              replace hnw := hnw.ext hx95
              refine stg rfl rfl hg89 (y_ix hSf sl31 rfl (rfl) rfl (by omega) (by omega)) ?_
              refine stg rfl rfl hg89 (y_le hSf na4 rfl (by omega) (by omega) rfl) ?_
              refine st (y_pickF rfl hg89 (v := .bool _) rfl) ?_
              refine rg_end ?_
              refine n_then ?_
              refine cnd rfl (fun hc5 => ?_) (fun hc5 => ?_)
              ·
                try simp only [decide_eq_true_eq, decide_eq_false_iff_not, Bool.not_eq_true', Bool.not_eq_false', Bool.and_eq_true, Bool.or_eq_true, Bool.or_eq_false_iff, Bool.cond_true_right, Bool.cond_false_right, Bool.cond_true_left, Bool.cond_false_left, ne_eq, Decidable.not_not, bne_iff_ne, beq_iff_eq, beq_eq_false_iff_ne, Bool.not_true, Bool.not_false] at hc5
                exact absurd ((hrc.2 _ hgn).1 hc5).1 hal.2
              ·
                try simp only [decide_eq_true_eq, decide_eq_false_iff_not, Bool.not_eq_true', Bool.not_eq_false', Bool.and_eq_true, Bool.or_eq_true, Bool.or_eq_false_iff, Bool.cond_true_right, Bool.cond_false_right, Bool.cond_true_left, Bool.cond_false_left, ne_eq, Decidable.not_not, bne_iff_ne, beq_iff_eq, beq_eq_false_iff_ne, Bool.not_true, Bool.not_false] at hc5
                refine wp_skip ?_
                refine n_blk ?_
                refine n_blk ?_
                refine n_then ?_
                refine rg ?_
                refine st (y_add rfl rfl (by omega)) ?_
                refine st (mvI rfl) ?_
                refine rg_end ?_
                exact n_then ⟨(k + 1, _), _, rfl, same_lk rfl (same_h0), ⟨rfl, rfl, trivial⟩, ⟨hlp0, by omega, hso1⟩, by first | omega | (dsimp only; omega)⟩
        ·
          try simp only [decide_eq_true_eq, decide_eq_false_iff_not, Bool.not_eq_true', Bool.not_eq_false', Bool.and_eq_true, Bool.or_eq_true, Bool.or_eq_false_iff, Bool.cond_true_right, Bool.cond_false_right, Bool.cond_true_left, Bool.cond_false_left, ne_eq, Decidable.not_not, bne_iff_ne, beq_iff_eq, beq_eq_false_iff_ne, Bool.not_true, Bool.not_false] at hc4
          refine wp_seq ?_
          refine rg ?_
          refine st (y_eql rfl rfl) ?_
          refine st (asB rfl) ?_
          refine rg_end ?_
          refine n_then ?_
          refine cnd rfl (fun hc6 => ?_) (fun hc6 => ?_)
          ·
            try simp only [decide_eq_true_eq, decide_eq_false_iff_not, Bool.not_eq_true', Bool.not_eq_false', Bool.and_eq_true, Bool.or_eq_true, Bool.or_eq_false_iff, Bool.cond_true_right, Bool.cond_false_right, Bool.cond_true_left, Bool.cond_false_left, ne_eq, Decidable.not_not, bne_iff_ne, beq_iff_eq, beq_eq_false_iff_ne, Bool.not_true, Bool.not_false] at hc6
            have hal : ¬ movB rows at_ (k : Int) = true := by
              rcases hall with q | q | q
              · omega
              · omega
              · exact q.2
            have hso1 := so_F hso (fun q => hal q.1)
            refine wp_seq ?_
            refine rgD 13 (fun w_ => Ext w52 w_) (fun i => false) mixed (by kernel_rfl) ?_
            intro w98 ho99 hs100
            refine ⟨ho99, ?_⟩
            have hx101 := ho99
            refine tn rfl (fun _ hG => mvS rfl) ?_
            refine tn rfl (fun _ hG => mvI rfl) ?_
            refine tn rfl (fun _ hG => y_ix (hnw.ext hG).sl sl22 rfl (by omega) rfl (by omega) (by omega)) ?_
            refine tn rfl (fun _ hG => y_le (hnw.ext hG).sl na3 rfl (by omega) (by omega) rfl) ?_
            refine tn rfl (fun _ hG => mvS rfl) ?_
            refine tn rfl (fun _ hG => mvI rfl) ?_
            refine tn rfl (fun _ hG => y_ix (hP.tb.ext hG) sl23 rfl (rfl) rfl (by omega) (by omega)) ?_
            refine tn rfl (fun _ hG => y_le (hP.tb.ext hG) na35 rfl (by omega) (by omega) rfl) ?_
            refine tn rfl (fun _ hG => y_len Try.underlying35 rfl) ?_
            refine tn rfl (fun _ hG => y_leq rfl rfl) ?_
            refine tn rfl (fun _ hG => mvB rfl) ?_
            refine gspT 114 rfl (fun hg102 => ?_) (fun hg102 => ?_)
            ·
              have hg102n := hg102; try simp only [decide_eq_true_eq, decide_eq_false_iff_not, Bool.not_eq_true', Bool.not_eq_false', Bool.and_eq_true, Bool.or_eq_true, Bool.or_eq_false_iff, Bool.cond_true_right, Bool.cond_false_right, Bool.cond_true_left, Bool.cond_false_left, ne_eq, Decidable.not_not, bne_iff_ne, beq_iff_eq, beq_eq_false_iff_ne, Bool.not_true, Bool.not_false] at hg102n
              refine tng rfl rfl rfl hg102 (fun _ hG => mvS rfl) ?_
              refine tng rfl rfl rfl hg102 (fun _ hG => mvS rfl) ?_
              refine t_end ?_
              have hz103 := hx101.size
              replace hL0 := hL0.ext hx101
              replace hL1 := hL1.ext hx101
              replace hE := hE.step hx101 (.inl (Nat.le_refl _))
              replace hP := hP.ext hx101
              replace hx := hx.ext hx101
              replace hSf := hSf.ext hx101
              replace hlp0 := hlp0.step hx101 (.inl (Nat.le_refl _))
              replace hnw := hnw.ext hx101
              refine scg rfl rfl hg102 cl15 (ref35_CheckStateM_ok rows _ _ _ _ (nxA at_ k) _ _ _ _ _ hP (by omega) (Ow.sl hnw) hln (by omega) at_.length (by omega)) rfl ?_
              rintro v108 w104 ⟨k6, rfl, hck6, ho105⟩
              have hk6 : k6 ≠ 0 := fun q => by
                rw [q] at hck6
                exact hck6.ok.2.2 (blocked_hel hva hg hkl (by omega) hal)
              have hz109 := ho105.size
              replace hL0 := hL0.ext ho105
              replace hL1 := hL1.ext ho105
              replace hE := hE.step ho105 (.inl (Nat.le_refl _))
              replace hP := hP.ext ho105
              replace hx := hx.ext ho105
              replace hSf := hSf.ext ho105
              replace hlp0 := hlp0.step ho105 (.inl (Nat.le_refl _))
              replace hnw := hnw.ext ho105
              refine stg rfl rfl hg102 (y_eql rfl rfl) ?_
              refine st (y_pickT rfl hg102 (v := .bool _) rfl) ?_
              refine rg_end ?_
              refine n_then ?_
              refine cnd rfl (fun hc7 => ?_) (fun hc7 => ?_)
              ·
                try simp only [decide_eq_true_eq, decide_eq_false_iff_not, Bool.not_eq_true', Bool.not_eq_false', Bool.and_eq_true, Bool.or_eq_true, Bool.or_eq_false_iff, Bool.cond_true_right, Bool.cond_false_right, Bool.cond_true_left, Bool.cond_false_left, ne_eq, Decidable.not_not, bne_iff_ne, beq_iff_eq, beq_eq_false_iff_ne, Bool.not_true, Bool.not_false] at hc7
                exfalso; omega
              ·
                try simp only [decide_eq_true_eq, decide_eq_false_iff_not, Bool.not_eq_true', Bool.not_eq_false', Bool.and_eq_true, Bool.or_eq_true, Bool.or_eq_false_iff, Bool.cond_true_right, Bool.cond_false_right, Bool.cond_true_left, Bool.cond_false_left, ne_eq, Decidable.not_not, bne_iff_ne, beq_iff_eq, beq_eq_false_iff_ne, Bool.not_true, Bool.not_false] at hc7
                refine wp_skip ?_
                refine n_blk ?_
                refine n_blk ?_
                refine n_then ?_
                refine rg ?_
                refine st (y_add rfl rfl (by omega)) ?_
                refine st (mvI rfl) ?_
                refine rg_end ?_
                exact n_then ⟨(k + 1, _), _, rfl, same_lk rfl (same_h0), ⟨rfl, rfl, trivial⟩, ⟨hlp0, by omega, hso1⟩, by first | omega | (dsimp only; omega)⟩
            ·
              have hg102n := hg102; try simp only [decide_eq_true_eq, decide_eq_false_iff_not, Bool.not_eq_true', Bool.not_eq_false', Bool.and_eq_true, Bool.or_eq_true, Bool.or_eq_false_iff, Bool.cond_true_right, Bool.cond_false_right, Bool.cond_true_left, Bool.cond_false_left, ne_eq, Decidable.not_not, bne_iff_ne, beq_iff_eq, beq_eq_false_iff_ne, Bool.not_true, Bool.not_false] at hg102n
              refine tns rfl rfl hg102 ?_
              refine tns rfl rfl hg102 ?_
              refine t_end ?_
              have hz110 := hx101.size
              replace hL0 := hL0.ext hx101
              replace hL1 := hL1.ext hx101
              replace hE := hE.step hx101 (.inl (Nat.le_refl _))
              replace hP := hP.ext hx101
              replace hx := hx.ext hx101
              replace hSf := hSf.ext hx101
              replace hlp0 := hlp0.step hx101 (.inl (Nat.le_refl _))
              replace hnw := hnw.ext hx101
              refine sts rfl rfl hg102 ?_
              refine sts rfl rfl hg102 ?_
              refine st (y_pickF rfl hg102 (v := .bool _) rfl) ?_
              refine rg_end ?_
              refine n_then ?_
              refine cnd rfl (fun hc7 => absurd hc7 (by decide)) (fun hc7 => ?_)
              refine wp_skip ?_
              refine n_blk ?_
              refine n_blk ?_
              refine n_then ?_
              refine rg ?_
              refine st (y_add rfl rfl (by omega)) ?_
              refine st (mvI rfl) ?_
              refine rg_end ?_
              exact n_then ⟨(k + 1, _), _, rfl, same_lk rfl (same_h0), ⟨rfl, rfl, trivial⟩, ⟨hlp0, by omega, hso1⟩, by first | omega | (dsimp only; omega)⟩
          ·
            try simp only [decide_eq_true_eq, decide_eq_false_iff_not, Bool.not_eq_true', Bool.not_eq_false', Bool.and_eq_true, Bool.or_eq_true, Bool.or_eq_false_iff, Bool.cond_true_right, Bool.cond_false_right, Bool.cond_true_left, Bool.cond_false_left, ne_eq, Decidable.not_not, bne_iff_ne, beq_iff_eq, beq_eq_false_iff_ne, Bool.not_true, Bool.not_false] at hc6
            exfalso
            rcases hall with q | q | q <;> omega
    ·
      try simp only [decide_eq_true_eq, decide_eq_false_iff_not, Bool.not_eq_true', Bool.not_eq_false', Bool.and_eq_true, Bool.or_eq_true, Bool.or_eq_false_iff, Bool.cond_true_right, Bool.cond_false_right, Bool.cond_true_left, Bool.cond_false_left, ne_eq, Decidable.not_not, bne_iff_ne, beq_iff_eq, beq_eq_false_iff_ne, Bool.not_true, Bool.not_false] at hc1
      have hke : k = rows.length := by omega
      subst hke
      refine wp_exit ?_
      refine e_then (e_then (e_blk (?_)))
      refine n_then ?_
      refine wp_seq ?_
      refine rg ?_
      refine sc cl16 (law36_awake_ok _) rfl ?_
      rintro v115 w111 ⟨rfl, ho112⟩
      have hz116 := ho112.size
      replace hL0 := hL0.ext ho112
      replace hL1 := hL1.ext ho112
      replace hE := hE.step ho112 (.inl (Nat.le_refl _))
      replace hP := hP.ext ho112
      replace hx := hx.ext ho112
      replace hSf := hSf.ext ho112
      refine st (mvB rfl) ?_
      refine stg rfl rfl rfl (mvB rfl) ?_
      refine stg rfl rfl rfl (mvS rfl) ?_
      refine stg rfl rfl rfl (mvS rfl) ?_
      refine stg rfl rfl rfl (mvS rfl) ?_
      refine scg rfl rfl rfl cl19 (law36_index_ok rows _ _ _ _ at_ _ _ _ _ _ hP (by omega) (Ow.sl hx) hsm hg) rfl ?_
      rintro v121 w117 ⟨rfl, ho118⟩
      have hir := idx_rng (rows := rows) (a := at_) (k := rows.length) hg.rng
      have hz122 := ho118.size
      replace hL0 := hL0.ext ho118
      replace hL1 := hL1.ext ho118
      replace hE := hE.step ho118 (.inl (Nat.le_refl _))
      replace hP := hP.ext ho118
      replace hx := hx.ext ho118
      replace hSf := hSf.ext ho118
      refine stg rfl rfl rfl (y_ix hSf sl31 rfl (rfl) rfl (by omega) (by omega)) ?_
      refine stg rfl rfl rfl (y_le hSf na4 rfl (by omega) (by omega) rfl) ?_
      have hse := hrc.2 at_ hg
      refine stg rfl rfl rfl (y_eqlB rfl rfl Try.underlying4) ?_
      refine st (y_pickT rfl rfl (v := .bool _) rfl) ?_
      refine st (asB rfl) ?_
      refine rg_end ?_
      refine n_then ?_
      refine wp_ret ?_
      refine ret1 (v := (.bool _)) Try.results8 rfl ?_
      exact ⟨vb (by
        rw [beq_of (hso.trans (safe_iff.symm.trans ⟨fun q => hse.2 ⟨q, hnh⟩, fun q => (hse.1 q).1⟩))]), hE⟩
end Go.Proofs.Yteicgnmggkhlbaa
