/-
  Walks of the functions, printed by a program out of the code and the loops' relations.
-/
import Derived.Test.YteicgnmggkhlbaaWkG
import Derived.Test.YteicgnmggkhlbaaProg
import Derived.KernelRfl
import Derived.Test.YteicgnmggkhlbaaP21
namespace Go.Proofs.Yteicgnmggkhlbaa
open Go.Wk Go.RowKit
set_option linter.unusedVariables false
set_option linter.unusedSimpArgs false
theorem Cyc.rot {g : Int → Int} {t : Int} {j : Nat} (h : Cyc g t j) {i : Nat} (hi : i < j) : Cyc g (itG g t i) j := by
  have hp : ∀ a, itG g t (j + a) = itG g t a := fun a => by rw [it_add, h.eq]
  refine ⟨h.pos, by rw [← it_add, Nat.add_comm, hp], fun a h0 h1 e => ?_⟩
  rw [← it_add] at e
  by_cases c : i + a < j
  · exact h.nd (by omega) c e.symm
  · rw [show i + a = j + (i + a - j) by omega, hp] at e
    exact h.nd (a := i + a - j) (b := i) (by omega) hi e
section
variable {rows : List Pw} {at_ : List Int} {t j : Nat}
theorem kn_least (ht : t < rows.length) (h : Cyc (gS rows at_) (t : Int) j) (hl : ∀ s : Nat, s < t → ∀ i, ¬ Cyc (gS rows at_) (s : Int) i) {i : Nat} (hi : i < j) : (t : Int) ≤ itG (gS rows at_) (t : Int) i := by
  refine Classical.byContradiction fun hn => ?_
  have hr := h.in ht i
  obtain ⟨s, hs⟩ := Int.eq_ofNat_of_zero_le hr.1
  have := h.rot hi
  rw [hs] at this
  exact hl s (by omega) j this
theorem kn_next (h : Cyc (gS rows at_) (t : Int) j) {i : Nat} (hi : i < j) : 0 ≤ ((i : Int) + 1).tmod (j : Int) ∧ ((i : Int) + 1).tmod (j : Int) < j ∧ el (itL (gS rows at_) (t : Int) j) (((i : Int) + 1).tmod (j : Int)) = itG (gS rows at_) (t : Int) (i + 1) := by
  have hp := h.pos
  rw [Int.tmod_eq_emod_of_nonneg (by omega)]
  by_cases c : i + 1 < j
  · rw [Int.emod_eq_of_lt (by omega) (by omega)]
    exact ⟨by omega, by omega, itL_el (i := i + 1) c⟩
  · have e : i + 1 = j := by omega
    rw [show ((i : Int) + 1) = (j : Int) by omega, Int.emod_self, e, h.eq]
    exact ⟨by omega, by omega, itL_el (i := 0) hp⟩
/-- What the next one in a circle holds. -/
theorem kn_holds (hva : VaP rows) (hg : GoP rows at_) (ht : t < rows.length) (h : Cyc (gS rows at_) (t : Int) j) (i : Nat) {u : Nat} (hu : itG (gS rows at_) (t : Int) i = (u : Int)) : el at_ (u : Int) + 1 < (el rows (u : Int)).st.length ∧ secT rows at_ (itG (gS rows at_) (t : Int) (i + 1)) = (el (el rows (u : Int)).st (el at_ (u : Int) + 1)).sec ∧ itG (gS rows at_) (t : Int) (i + 1) ≠ (u : Int) := by
  have hr := h.in ht i
  have hr1 := h.in ht (i + 1)
  have e : itG (gS rows at_) (t : Int) (i + 1) = blocT rows at_ (u : Int) := by show gS rows at_ _ = _; rw [hu]; unfold gS; rw [if_neg (by omega)]
  have hb := bloc_in hva hg (u := u) (by omega) (by omega)
  rw [e]
  refine ⟨hb.1, hb.2.1, ?_⟩
  rw [e] at hr1
  unfold blocT at hr1 ⊢
  rw [if_neg (by omega)] at hr1 ⊢
  exact (blkT_sec (by omega)).2
def Kept (rows : List Pw) (at_ : List Int) (t j : Nat) (b : List Int) : Prop := ∀ i, i < j → el b (itG (gS rows at_) (t : Int) i) = el at_ (itG (gS rows at_) (t : Int) i)
theorem kept_at (h : Cyc (gS rows at_) (t : Int) j) {b : List Int} (hk : Kept rows at_ t j b) {i : Nat} (hi : i < j) : el b (itG (gS rows at_) (t : Int) (i + 1)) = el at_ (itG (gS rows at_) (t : Int) (i + 1)) := by
  by_cases c : i + 1 < j
  · exact hk (i + 1) c
  · rw [show i + 1 = j by omega, h.eq]; exact hk 0 h.pos
theorem kept_mov (hva : VaP rows) (hg : GoP rows at_) (ht : t < rows.length) (h : Cyc (gS rows at_) (t : Int) j) {b : List Int} (hk : Kept rows at_ t j b) {u : Nat} (hm : movB rows b (u : Int) = true) {i : Nat} (hi : i < j) : itG (gS rows at_) (t : Int) i ≠ (u : Int) := fun e => by
  obtain ⟨h1, h2, h3⟩ := kn_holds hva hg ht h i e
  have hr := h.in ht (i + 1)
  obtain ⟨v, hv⟩ := Int.eq_ofNat_of_zero_le hr.1
  have hb := hk i hi
  have hb1 := kept_at h hk hi
  rw [e] at hb
  rw [hv] at hb1 h2 h3 hr
  rw [movB_iff, hb] at hm
  exact hm.2 h1 v (by omega) (by omega) (by rw [secT_congr hb1]; exact h2)
theorem kept_nx (hva : VaP rows) (hg : GoP rows at_) (ht : t < rows.length) (h : Cyc (gS rows at_) (t : Int) j) {b : List Int} (hk : Kept rows at_ t j b) {u : Nat} (hm : movB rows b (u : Int) = true) : Kept rows at_ t j (nxA b u) := fun i hi => by
  have hne := kept_mov hva hg ht h hk hm hi
  have hr := h.in ht i
  obtain ⟨v, hv⟩ := Int.eq_ofNat_of_zero_le hr.1
  have := hk i hi
  rw [hv] at this hne ⊢
  rw [nx_u (by omega)]; exact this
theorem kept_unsafe (hva : VaP rows) (hg : GoP rows at_) (ht : t < rows.length) (h : Cyc (gS rows at_) (t : Int) j) {b : List Int} (hs : Safe rows b) : Kept rows at_ t j b → False := by
  induction hs with
  | @done b q =>
    intro hk
    have h1 := (kn_holds hva hg ht h 0 (u := t) rfl).1
    have h2 : el b (t : Int) = el at_ (t : Int) := hk 0 h.pos
    have h3 := left_el q ht
    omega
  | @step b u hu hm q ih => exact fun hk => ih (kept_nx hva hg ht h hk hm)
end

set_option maxHeartbeats 4000000 in
set_option maxRecDepth 100000 in
theorem law36_DeadlockKnot_ok (a0 : Option Addr) (c0 : Nat) (l0 : List Int) (a1 : Option Addr) (c1 : Nat) (l1 : List Int) (a2 : Option Addr) (c2 : Nat) (l2 : List Int) (w : World) (hL0 : Ints 0 w.heap.size w a0 l0) (hl0 : (l0.length : Int) ≤ 9223372036854775807) (hL1 : Ints 0 w.heap.size w a1 l1) (hl1 : (l1.length : Int) ≤ 9223372036854775807) (hL2 : Ints 0 w.heap.size w a2 l2) (hl2 : (l2.length : Int) ≤ 9223372036854775807)  : Cal Try.prog 9 [.slice a0 l0.length c0, .slice a1 l1.length c1, .slice a2 l2.length c2] w (fun v w' => v = .bool true ∧ Ext w w') := by
  have hE : Out 0 0 w w := Out.refl _ _ w
  refine enter Try.func9 rfl Try.ntmps9 rfl ?_
  refine wp_seq ?_
  refine rg ?_
  refine st (asB rfl) ?_
  refine rg_end ?_
  refine n_then ?_
  refine wp_seq ?_
  refine rg ?_
  refine st (mvS rfl) ?_
  refine sc cl13 (keep2_Paths_ok _ _ _ _ _ _ hL0 hl0) rfl ?_
  rintro v5 w1 ⟨rows, ap, cp, rfl, hsm, hcp, hP, ho2⟩
  have hva := hsm.va
  have hn3 := hsm.n3
  have hn1 := hsm.n1
  have hln := sm_len hsm
  have hz6 := ho2.size
  replace hL0 := hL0.ext ho2
  replace hL1 := hL1.ext ho2
  replace hL2 := hL2.ext ho2
  replace hE := hE.step ho2 (.inl (Nat.le_refl _))
  refine st (asS rfl) ?_
  refine rg_end ?_
  refine n_then ?_
  refine wp_seq ?_
  refine rg ?_
  refine st (mvS rfl) ?_
  refine st (mvS rfl) ?_
  refine sc cl14 (keep2_At_ok rows _ _ _ _ _ _ _ _ _ _ hP (by omega) hL1 hl1 hsm) rfl ?_
  rintro v11 w7 ⟨ax, cx, at_, rfl, hg, hcx, hx, ho8⟩
  have hl := hg.len
  have hz12 := ho8.size
  replace hL0 := hL0.ext ho8
  replace hL1 := hL1.ext ho8
  replace hL2 := hL2.ext ho8
  replace hE := hE.step ho8 (.inl (Nat.le_refl _))
  replace hP := hP.ext ho8
  refine st (asS rfl) ?_
  refine rg_end ?_
  refine n_then ?_
  refine wp_seq ?_
  refine rg ?_
  refine st (mvS rfl) ?_
  refine st (mvS rfl) ?_
  refine sc cl25 (dead_Knot_ok rows _ _ _ _ at_ _ _ _ _ _ hP (by omega) (Ow.sl hx) hln (by omega)) rfl ?_
  rintro v17 w13 ⟨ad9, cc9, l9, rfl, hO9, hmv9, ho14⟩
  have hm9 := kn_len hmv9
  have hz18 := ho14.size
  replace hL0 := hL0.ext ho14
  replace hL1 := hL1.ext ho14
  replace hL2 := hL2.ext ho14
  replace hE := hE.step ho14 (.inl (Nat.le_refl _))
  replace hP := hP.ext ho14
  replace hx := hx.ext ho14
  refine st (asS rfl) ?_
  refine rg_end ?_
  refine n_then ?_
  refine wp_seq ?_
  refine wp_seq ?_
  refine rg ?_
  refine st (mvS rfl) ?_
  refine st (y_len Try.underlying22 rfl) ?_
  refine st (y_eql rfl rfl) ?_
  refine st (mvB rfl) ?_
  refine gspL 33 rfl (fun hg19 => ?_) (fun hg19 => ?_)
  ·
    have hg19n := hg19; try simp only [decide_eq_true_eq, decide_eq_false_iff_not, Bool.not_eq_true', Bool.not_eq_false', Bool.and_eq_true, Bool.or_eq_true, Bool.or_eq_false_iff, Bool.cond_true_right, Bool.cond_false_right, Bool.cond_true_left, Bool.cond_false_left, ne_eq, Decidable.not_not, bne_iff_ne, beq_iff_eq, beq_eq_false_iff_ne, Bool.not_true, Bool.not_false] at hg19n
    refine sts rfl rfl hg19 ?_
    refine sts rfl rfl hg19 ?_
    refine sts rfl rfl hg19 ?_
    refine sts rfl rfl hg19 ?_
    refine st (y_pickT rfl hg19 (v := .bool _) rfl) ?_
    refine rg_end ?_
    refine n_then ?_
    refine cnd rfl (fun hc0 => ?_) (fun hc0 => absurd hc0 (by decide))
    have hl0 : (l9.length : Int) = 0 := by
      first
      | omega
      | (rw [(hmv9 k6 hck6).1 (by assumption)]; rfl)
    refine wp_seq ?_
    refine rg ?_
    refine sc cl16 (law36_awake_ok _) rfl ?_
    rintro v24 w20 ⟨rfl, ho21⟩
    have hz25 := ho21.size
    replace hL0 := hL0.ext ho21
    replace hL1 := hL1.ext ho21
    replace hL2 := hL2.ext ho21
    replace hE := hE.step ho21 (.inl (Nat.le_refl _))
    replace hP := hP.ext ho21
    replace hx := hx.ext ho21
    replace hO9 := hO9.ext ho21
    refine st (mvB rfl) ?_
    refine stg rfl rfl rfl (mvS rfl) ?_
    refine stg rfl rfl rfl (y_len Try.underlying22 rfl) ?_
    refine stg rfl rfl rfl (y_eql rfl rfl) ?_
    refine st (y_pickT rfl rfl (v := .bool _) rfl) ?_
    refine st (asB rfl) ?_
    refine rg_end ?_
    refine n_then ?_
    refine wp_ret ?_
    refine r_then (ret1 (v := (.bool _)) Try.results9 rfl ?_)
    exact ⟨vb (by simp only [decide_eq_true_eq, iff_true]; exact hl0), hE⟩
  ·
    have hg19n := hg19; try simp only [decide_eq_true_eq, decide_eq_false_iff_not, Bool.not_eq_true', Bool.not_eq_false', Bool.and_eq_true, Bool.or_eq_true, Bool.or_eq_false_iff, Bool.cond_true_right, Bool.cond_false_right, Bool.cond_true_left, Bool.cond_false_left, ne_eq, Decidable.not_not, bne_iff_ne, beq_iff_eq, beq_eq_false_iff_ne, Bool.not_true, Bool.not_false] at hg19n
    refine stg rfl rfl hg19 (mvS rfl) ?_
    refine stg rfl rfl hg19 (mvS rfl) ?_
    refine scg rfl rfl hg19 cl15 (ref35_CheckState_ok rows _ _ _ _ at_ _ _ _ _ _ hP (by omega) (Ow.sl hx) hln (by omega)) rfl ?_
    rintro v30 w26 ⟨k6, rfl, hck6, ho27⟩
    have hz31 := ho27.size
    replace hL0 := hL0.ext ho27
    replace hL1 := hL1.ext ho27
    replace hL2 := hL2.ext ho27
    replace hE := hE.step ho27 (.inl (Nat.le_refl _))
    replace hP := hP.ext ho27
    replace hx := hx.ext ho27
    replace hO9 := hO9.ext ho27
    refine stg rfl rfl hg19 (y_neq rfl rfl) ?_
    refine st (y_pickF rfl hg19 (v := .bool _) rfl) ?_
    refine rg_end ?_
    refine n_then ?_
    refine cnd rfl (fun hc0 => ?_) (fun hc0 => ?_)
    ·
      try simp only [decide_eq_true_eq, decide_eq_false_iff_not, Bool.not_eq_true', Bool.not_eq_false', Bool.and_eq_true, Bool.or_eq_true, Bool.or_eq_false_iff, Bool.cond_true_right, Bool.cond_false_right, Bool.cond_true_left, Bool.cond_false_left, ne_eq, Decidable.not_not, bne_iff_ne, beq_iff_eq, beq_eq_false_iff_ne, Bool.not_true, Bool.not_false] at hc0
      have hl0 : (l9.length : Int) = 0 := by
        first
        | omega
        | (rw [(hmv9 k6 hck6).1 (by assumption)]; rfl)
      refine wp_seq ?_
      refine rg ?_
      refine sc cl16 (law36_awake_ok _) rfl ?_
      rintro v36 w32 ⟨rfl, ho33⟩
      have hz37 := ho33.size
      replace hL0 := hL0.ext ho33
      replace hL1 := hL1.ext ho33
      replace hL2 := hL2.ext ho33
      replace hE := hE.step ho33 (.inl (Nat.le_refl _))
      replace hP := hP.ext ho33
      replace hx := hx.ext ho33
      replace hO9 := hO9.ext ho33
      refine st (mvB rfl) ?_
      refine stg rfl rfl rfl (mvS rfl) ?_
      refine stg rfl rfl rfl (y_len Try.underlying22 rfl) ?_
      refine stg rfl rfl rfl (y_eql rfl rfl) ?_
      refine st (y_pickT rfl rfl (v := .bool _) rfl) ?_
      refine st (asB rfl) ?_
      refine rg_end ?_
      refine n_then ?_
      refine wp_ret ?_
      refine r_then (ret1 (v := (.bool _)) Try.results9 rfl ?_)
      exact ⟨vb (by simp only [decide_eq_true_eq, iff_true]; exact hl0), hE⟩
    ·
      try simp only [decide_eq_true_eq, decide_eq_false_iff_not, Bool.not_eq_true', Bool.not_eq_false', Bool.and_eq_true, Bool.or_eq_true, Bool.or_eq_false_iff, Bool.cond_true_right, Bool.cond_false_right, Bool.cond_true_left, Bool.cond_false_left, ne_eq, Decidable.not_not, bne_iff_ne, beq_iff_eq, beq_eq_false_iff_ne, Bool.not_true, Bool.not_false] at hc0
      have hk6 : k6 = 0 := by omega
      have hnh : ¬ Hel rows at_ := by rw [hk6] at hck6; exact hck6.ok.2.2
      obtain ⟨t, j, htl, hcyc, hleast, hl9⟩ : ∃ t j : Nat, t < rows.length ∧ Cyc (gS rows at_) (t : Int) j ∧ (∀ s : Nat, s < t → ∀ i, ¬ Cyc (gS rows at_) (s : Int) i) ∧ l9 = itL (gS rows at_) (t : Int) j := by
        rcases (hmv9 k6 hck6).2 hk6 with q | ⟨_, q⟩
        · exact q
        · exfalso
          have q0 : l9.length = 0 := by rw [q]; rfl
          omega
      have hj9 : l9.length = j := by rw [hl9]; exact itL_len
      have hjp := hcyc.pos
      refine wp_skip ?_
      refine n_then ?_
      refine wp_seq ?_
      refine wp_seq ?_
      refine rg ?_
      refine st (mvS rfl) ?_
      refine st (y_len Try.underlying22 rfl) ?_
      refine st (mvI rfl) ?_
      refine rg_end ?_
      refine n_then ?_
      refine wp_block ?_
      refine lp (γ := Nat) [6, 10, 11, 12, 47, 48, 49, 50, 51, 52, 53, 54, 55, 56, 57, 58, 59, 60, 61, 62, 63, 64, 65, 66, 67, 68, 69, 70, 71, 72, 73, 74, 75, 76, 77, 78, 79, 80, 81, 82, 83, 84, 85, 86, 87, 88, 89, 90, 91, 92, 93, 94, 95, 96, 97, 98, 99, 100, 101, 102, 103, 104, 105, 106, 107, 108, 109, 110, 111, 112, 113, 114, 115] (fun i => [(47, .int .i64 (i : Int))]) (fun i w_ => Ext w26 w_ ∧ (i : Int) ≤ l9.length) (fun i => l9.length - i) 0 ⟨rfl, trivial⟩ ⟨Out.refl _ _ _, by omega⟩ ?_
      rintro i hav_ w38 ⟨ho39, hi_⟩
      have hlp0 := ho39
      have hz40 := ho39.size
      replace hL0 := hL0.ext ho39
      replace hL1 := hL1.ext ho39
      replace hL2 := hL2.ext ho39
      replace hE := hE.step ho39 (.inl (Nat.le_refl _))
      replace hP := hP.ext ho39
      replace hx := hx.ext ho39
      replace hO9 := hO9.ext ho39
      refine wp_seq ?_
      refine rg ?_
      refine st (y_lss rfl rfl) ?_
      refine rg_end ?_
      refine n_then ?_
      refine wp_seq ?_
      refine cnd rfl (fun hc1 => ?_) (fun hc1 => ?_)
      ·
        try simp only [decide_eq_true_eq, decide_eq_false_iff_not, Bool.not_eq_true', Bool.not_eq_false', Bool.and_eq_true, Bool.or_eq_true, Bool.or_eq_false_iff, Bool.cond_true_right, Bool.cond_false_right, Bool.cond_true_left, Bool.cond_false_left, ne_eq, Decidable.not_not, bne_iff_ne, beq_iff_eq, beq_eq_false_iff_ne, Bool.not_true, Bool.not_false] at hc1
        have hij : i < j := by omega
        have hci := hcyc.in htl i
        obtain ⟨u, hu⟩ := Int.eq_ofNat_of_zero_le hci.1
        have hel : el l9 (i : Int) = (u : Int) := by rw [hl9, itL_el hij, hu]
        have hul : u < rows.length := by omega
        have hge := kn_least htl hcyc hleast hij
        rw [hu] at hge
        obtain ⟨hh1, hh2, hh3⟩ := kn_holds hva hg htl hcyc i hu
        have hcv := hcyc.in htl (i + 1)
        obtain ⟨v, hv⟩ := Int.eq_ofNat_of_zero_le hcv.1
        rw [hv] at hh2 hh3 hcv
        have hkn := kn_next hcyc hij
        rw [← hl9, ← hj9, hv] at hkn
        have hgu := hg.rng u hul
        have hrl := (va_row hva (k := u) (by omega)).l2
        have hmr := el_mem (l := rows) (i := (u : Int)) (by omega) (by omega)
        have hRu := hP.row _ hmr
        have he0 : el l9 (0 : Int) = (t : Int) := by rw [hl9]; exact itL_el (i := 0) hjp
        refine wp_skip ?_
        refine n_then ?_
        refine wp_seq ?_
        refine wp_block ?_
        refine wp_seq ?_
        refine rg ?_
        refine st (mvI rfl) ?_
        refine st (y_ix hO9.sl sl22 rfl (rfl) rfl (by omega) (by omega)) ?_
        refine st (y_le hO9.sl na3 rfl (by omega) (by omega) rfl) ?_
        rw [hel]
        refine st (asI rfl) ?_
        refine st (asI rfl) ?_
        refine rg_end ?_
        refine n_then ?_
        refine wp_seq ?_
        refine wp_seq ?_
        refine rgD 26 (fun w_ => Ext w38 w_) (fun i => false) mixed (by kernel_rfl) ?_
        intro w41 ho42 hs43
        refine ⟨ho42, ?_⟩
        have hx44 := ho42
        refine tn rfl (fun _ hG => mvI rfl) ?_
        refine tn rfl (fun _ hG => y_lss rfl rfl) ?_
        refine tn rfl (fun _ hG => mvB rfl) ?_
        refine gspT 54 rfl (fun hg45 => ?_) (fun hg45 => ?_)
        ·
          have hg45n := hg45; try simp only [decide_eq_true_eq, decide_eq_false_iff_not, Bool.not_eq_true', Bool.not_eq_false', Bool.and_eq_true, Bool.or_eq_true, Bool.or_eq_false_iff, Bool.cond_true_right, Bool.cond_false_right, Bool.cond_true_left, Bool.cond_false_left, ne_eq, Decidable.not_not, bne_iff_ne, beq_iff_eq, beq_eq_false_iff_ne, Bool.not_true, Bool.not_false] at hg45n
          exfalso; omega
        ·
          have hg45n := hg45; try simp only [decide_eq_true_eq, decide_eq_false_iff_not, Bool.not_eq_true', Bool.not_eq_false', Bool.and_eq_true, Bool.or_eq_true, Bool.or_eq_false_iff, Bool.cond_true_right, Bool.cond_false_right, Bool.cond_true_left, Bool.cond_false_left, ne_eq, Decidable.not_not, bne_iff_ne, beq_iff_eq, beq_eq_false_iff_ne, Bool.not_true, Bool.not_false] at hg45n
          refine tng rfl rfl rfl hg45 (fun _ hG => mvI rfl) ?_
          refine tng rfl rfl rfl hg45 (fun _ hG => mvS rfl) ?_
          refine tng rfl rfl rfl hg45 (fun _ hG => y_len Try.underlying23 rfl) ?_
          refine tng rfl rfl rfl hg45 (fun _ hG => y_geq rfl rfl) ?_
          refine tn rfl (fun _ hG => y_pickF rfl hg45 (v := .bool _) rfl) ?_
          refine tn rfl (fun _ hG => mvB rfl) ?_
          refine gspT 60 rfl (fun hg46 => ?_) (fun hg46 => ?_)
          ·
            have hg46n := hg46; try simp only [decide_eq_true_eq, decide_eq_false_iff_not, Bool.not_eq_true', Bool.not_eq_false', Bool.and_eq_true, Bool.or_eq_true, Bool.or_eq_false_iff, Bool.cond_true_right, Bool.cond_false_right, Bool.cond_true_left, Bool.cond_false_left, ne_eq, Decidable.not_not, bne_iff_ne, beq_iff_eq, beq_eq_false_iff_ne, Bool.not_true, Bool.not_false] at hg46n
            exfalso; omega
          ·
            have hg46n := hg46; try simp only [decide_eq_true_eq, decide_eq_false_iff_not, Bool.not_eq_true', Bool.not_eq_false', Bool.and_eq_true, Bool.or_eq_true, Bool.or_eq_false_iff, Bool.cond_true_right, Bool.cond_false_right, Bool.cond_true_left, Bool.cond_false_left, ne_eq, Decidable.not_not, bne_iff_ne, beq_iff_eq, beq_eq_false_iff_ne, Bool.not_true, Bool.not_false] at hg46n
            refine tng rfl rfl rfl hg46 (fun _ hG => mvS rfl) ?_
            refine tng rfl rfl rfl hg46 (fun _ hG => mvI rfl) ?_
            refine tng rfl rfl rfl hg46 (fun _ hG => y_ix (hx.ext hG).sl sl22 rfl (rfl) rfl (by omega) (by omega)) ?_
            refine tng rfl rfl rfl hg46 (fun _ hG => y_le (hx.ext hG).sl na3 rfl (by omega) (by omega) rfl) ?_
            refine tng rfl rfl rfl hg46 (fun _ hG => y_add rfl rfl (by omega)) ?_
            refine tng rfl rfl rfl hg46 (fun _ hG => mvS rfl) ?_
            refine tng rfl rfl rfl hg46 (fun _ hG => mvI rfl) ?_
            refine tng rfl rfl rfl hg46 (fun _ hG => y_ix (hP.tb.ext hG) sl23 rfl (rfl) rfl (by omega) (by omega)) ?_
            refine tng rfl rfl rfl hg46 (fun _ hG => y_le (hP.tb.ext hG) na35 rfl (by omega) (by omega) rfl) ?_
            refine tng rfl rfl rfl hg46 (fun _ hG => y_len Try.underlying35 rfl) ?_
            refine tng rfl rfl rfl hg46 (fun _ hG => y_geq rfl rfl) ?_
            refine tn rfl (fun _ hG => y_pickF rfl hg46 (v := .bool _) rfl) ?_
            refine tn rfl (fun _ hG => mvB rfl) ?_
            refine gspT 73 rfl (fun hg47 => ?_) (fun hg47 => ?_)
            ·
              have hg47n := hg47; try simp only [decide_eq_true_eq, decide_eq_false_iff_not, Bool.not_eq_true', Bool.not_eq_false', Bool.and_eq_true, Bool.or_eq_true, Bool.or_eq_false_iff, Bool.cond_true_right, Bool.cond_false_right, Bool.cond_true_left, Bool.cond_false_left, ne_eq, Decidable.not_not, bne_iff_ne, beq_iff_eq, beq_eq_false_iff_ne, Bool.not_true, Bool.not_false] at hg47n
              exfalso; omega
            ·
              have hg47n := hg47; try simp only [decide_eq_true_eq, decide_eq_false_iff_not, Bool.not_eq_true', Bool.not_eq_false', Bool.and_eq_true, Bool.or_eq_true, Bool.or_eq_false_iff, Bool.cond_true_right, Bool.cond_false_right, Bool.cond_true_left, Bool.cond_false_left, ne_eq, Decidable.not_not, bne_iff_ne, beq_iff_eq, beq_eq_false_iff_ne, Bool.not_true, Bool.not_false] at hg47n
              refine tng rfl rfl rfl hg47 (fun _ hG => mvI rfl) ?_
              refine tng rfl rfl rfl hg47 (fun _ hG => mvS rfl) ?_
              refine tng rfl rfl rfl hg47 (fun _ hG => y_ix (hO9.ext hG).sl sl22 rfl (rfl) rfl (by omega) (by omega)) ?_
              refine tng rfl rfl rfl hg47 (fun _ hG => y_le (hO9.ext hG).sl na3 rfl (by omega) (by omega) rfl) ?_
              rw [he0]
              refine t_end ?_
              have hz48 := hx44.size
              replace hL0 := hL0.ext hx44
              replace hL1 := hL1.ext hx44
              replace hL2 := hL2.ext hx44
              replace hE := hE.step hx44 (.inl (Nat.le_refl _))
              replace hP := hP.ext hx44
              replace hx := hx.ext hx44
              replace hO9 := hO9.ext hx44
              replace hlp0 := hlp0.step hx44 (.inl (Nat.le_refl _))
              replace hRu := hRu.ext hx44
              refine stg rfl rfl hg47 (y_lss rfl rfl) ?_
              refine st (y_pickF rfl hg47 (v := .bool _) rfl) ?_
              refine rg_end ?_
              refine n_then ?_
              refine cnd rfl (fun hc2 => ?_) (fun hc2 => ?_)
              ·
                try simp only [decide_eq_true_eq, decide_eq_false_iff_not, Bool.not_eq_true', Bool.not_eq_false', Bool.and_eq_true, Bool.or_eq_true, Bool.or_eq_false_iff, Bool.cond_true_right, Bool.cond_false_right, Bool.cond_true_left, Bool.cond_false_left, ne_eq, Decidable.not_not, bne_iff_ne, beq_iff_eq, beq_eq_false_iff_ne, Bool.not_true, Bool.not_false] at hc2
                exfalso; omega
              ·
                try simp only [decide_eq_true_eq, decide_eq_false_iff_not, Bool.not_eq_true', Bool.not_eq_false', Bool.and_eq_true, Bool.or_eq_true, Bool.or_eq_false_iff, Bool.cond_true_right, Bool.cond_false_right, Bool.cond_true_left, Bool.cond_false_left, ne_eq, Decidable.not_not, bne_iff_ne, beq_iff_eq, beq_eq_false_iff_ne, Bool.not_true, Bool.not_false] at hc2
                refine wp_skip ?_
                refine n_then ?_
                refine wp_seq ?_
                refine rg ?_
                refine st (mvS rfl) ?_
                refine st (mvI rfl) ?_
                refine st (y_add rfl rfl (by omega)) ?_
                refine st (mvS rfl) ?_
                refine st (y_len Try.underlying22 rfl) ?_
                refine st (y_rem rfl rfl (by omega)) ?_
                refine st (y_ix hO9.sl sl22 rfl (rfl) rfl (hkn.1) (hkn.2.1)) ?_
                refine st (y_le hO9.sl na3 rfl (hkn.1) (hkn.2.1) rfl) ?_
                rw [hkn.2.2]
                refine st (asI rfl) ?_
                refine rg_end ?_
                refine n_then ?_
                refine wp_seq ?_
                refine rgD 25 (fun w_ => Ext w41 w_) (fun i => Nat.beq i 12) mixed (by kernel_rfl) ?_
                intro w49 ho50 hs51
                refine ⟨ho50, ?_⟩
                have hx52 := ho50
                refine tn rfl (fun _ hG => mvI rfl) ?_
                refine tn rfl (fun _ hG => y_lss rfl rfl) ?_
                refine tn rfl (fun _ hG => mvB rfl) ?_
                refine gspT 90 rfl (fun hg53 => ?_) (fun hg53 => ?_)
                ·
                  have hg53n := hg53; try simp only [decide_eq_true_eq, decide_eq_false_iff_not, Bool.not_eq_true', Bool.not_eq_false', Bool.and_eq_true, Bool.or_eq_true, Bool.or_eq_false_iff, Bool.cond_true_right, Bool.cond_false_right, Bool.cond_true_left, Bool.cond_false_left, ne_eq, Decidable.not_not, bne_iff_ne, beq_iff_eq, beq_eq_false_iff_ne, Bool.not_true, Bool.not_false] at hg53n
                  exfalso; omega
                ·
                  have hg53n := hg53; try simp only [decide_eq_true_eq, decide_eq_false_iff_not, Bool.not_eq_true', Bool.not_eq_false', Bool.and_eq_true, Bool.or_eq_true, Bool.or_eq_false_iff, Bool.cond_true_right, Bool.cond_false_right, Bool.cond_true_left, Bool.cond_false_left, ne_eq, Decidable.not_not, bne_iff_ne, beq_iff_eq, beq_eq_false_iff_ne, Bool.not_true, Bool.not_false] at hg53n
                  refine tng rfl rfl rfl hg53 (fun _ hG => mvI rfl) ?_
                  refine tng rfl rfl rfl hg53 (fun _ hG => mvS rfl) ?_
                  refine tng rfl rfl rfl hg53 (fun _ hG => y_len Try.underlying23 rfl) ?_
                  refine tng rfl rfl rfl hg53 (fun _ hG => y_geq rfl rfl) ?_
                  refine tn rfl (fun _ hG => y_pickF rfl hg53 (v := .bool _) rfl) ?_
                  refine tn rfl (fun _ hG => mvB rfl) ?_
                  refine gspT 96 rfl (fun hg54 => ?_) (fun hg54 => ?_)
                  ·
                    have hg54n := hg54; try simp only [decide_eq_true_eq, decide_eq_false_iff_not, Bool.not_eq_true', Bool.not_eq_false', Bool.and_eq_true, Bool.or_eq_true, Bool.or_eq_false_iff, Bool.cond_true_right, Bool.cond_false_right, Bool.cond_true_left, Bool.cond_false_left, ne_eq, Decidable.not_not, bne_iff_ne, beq_iff_eq, beq_eq_false_iff_ne, Bool.not_true, Bool.not_false] at hg54n
                    exfalso; omega
                  ·
                    have hg54n := hg54; try simp only [decide_eq_true_eq, decide_eq_false_iff_not, Bool.not_eq_true', Bool.not_eq_false', Bool.and_eq_true, Bool.or_eq_true, Bool.or_eq_false_iff, Bool.cond_true_right, Bool.cond_false_right, Bool.cond_true_left, Bool.cond_false_left, ne_eq, Decidable.not_not, bne_iff_ne, beq_iff_eq, beq_eq_false_iff_ne, Bool.not_true, Bool.not_false] at hg54n
                    refine tng rfl rfl rfl hg54 (fun _ hG => mvS rfl) ?_
                    refine tng rfl rfl rfl hg54 (fun _ hG => mvS rfl) ?_
                    refine tng rfl rfl rfl hg54 (fun _ hG => mvI rfl) ?_
                    refine tcg rfl rfl rfl hg54 cl26 (ref35_Section_ok rows _ _ _ _ at_ _ _ _ _ v _ (hP.ext hx52) (by omega) (Ow.sl (hx.ext hx52)) hg (by omega)) rfl ?_
                    rintro v59 w55 ⟨rfl, ho56⟩
                    have hx60 := hx52.step ho56 (.inl (Nat.le_refl _))
                    have hz61 := ho56.size
                    refine ⟨hx60, ?_⟩
                    refine tng rfl rfl rfl hg54 (fun _ hG => mvS rfl) ?_
                    refine tng rfl rfl rfl hg54 (fun _ hG => mvI rfl) ?_
                    refine tng rfl rfl rfl hg54 (fun _ hG => y_ix (hP.tb.ext hG) sl23 rfl (rfl) rfl (by omega) (by omega)) ?_
                    refine tng rfl rfl rfl hg54 (fun _ hG => y_le (hP.tb.ext hG) na35 rfl (by omega) (by omega) rfl) ?_
                    refine tng rfl rfl rfl hg54 (fun _ hG => mvS rfl) ?_
                    refine tng rfl rfl rfl hg54 (fun _ hG => mvI rfl) ?_
                    refine tng rfl rfl rfl hg54 (fun _ hG => y_ix (hx.ext hG).sl sl22 rfl (rfl) rfl (by omega) (by omega)) ?_
                    refine tng rfl rfl rfl hg54 (fun _ hG => y_le (hx.ext hG).sl na3 rfl (by omega) (by omega) rfl) ?_
                    refine tng rfl rfl rfl hg54 (fun _ hG => y_add rfl rfl (by omega)) ?_
                    refine tng rfl rfl rfl hg54 (fun _ hG => y_ix (hRu.ext hG) sl35 rfl (rfl) rfl (by omega) (by omega)) ?_
                    refine tng rfl rfl rfl hg54 (fun _ hG => y_fld fld44_0 rfl) ?_
                    refine tng rfl rfl rfl hg54 (fun _ hG => y_lf (hRu.ext hG) na3 rfl (by omega) (by omega) rfl) ?_
                    refine t_end ?_
                    have hz62 := hx60.size
                    replace hL0 := hL0.ext hx60
                    replace hL1 := hL1.ext hx60
                    replace hL2 := hL2.ext hx60
                    replace hE := hE.step hx60 (.inl (Nat.le_refl _))
                    replace hP := hP.ext hx60
                    replace hx := hx.ext hx60
                    replace hO9 := hO9.ext hx60
                    replace hlp0 := hlp0.step hx60 (.inl (Nat.le_refl _))
                    replace hRu := hRu.ext hx60
                    refine stg rfl rfl hg54 (y_neq rfl rfl) ?_
                    refine st (y_pickF rfl hg54 (v := .bool _) rfl) ?_
                    refine rg_end ?_
                    refine n_then ?_
                    refine cnd rfl (fun hc3 => ?_) (fun hc3 => ?_)
                    ·
                      try simp only [decide_eq_true_eq, decide_eq_false_iff_not, Bool.not_eq_true', Bool.not_eq_false', Bool.and_eq_true, Bool.or_eq_true, Bool.or_eq_false_iff, Bool.cond_true_right, Bool.cond_false_right, Bool.cond_true_left, Bool.cond_false_left, ne_eq, Decidable.not_not, bne_iff_ne, beq_iff_eq, beq_eq_false_iff_ne, Bool.not_true, Bool.not_false] at hc3
                      exfalso; exact hc3 hh2
                    ·
                      try simp only [decide_eq_true_eq, decide_eq_false_iff_not, Bool.not_eq_true', Bool.not_eq_false', Bool.and_eq_true, Bool.or_eq_true, Bool.or_eq_false_iff, Bool.cond_true_right, Bool.cond_false_right, Bool.cond_true_left, Bool.cond_false_left, ne_eq, Decidable.not_not, bne_iff_ne, beq_iff_eq, beq_eq_false_iff_ne, Bool.not_true, Bool.not_false] at hc3
                      refine wp_skip ?_
                      refine n_blk ?_
                      refine n_then ?_
                      refine rg ?_
                      refine st (y_add rfl rfl (by omega)) ?_
                      refine st (mvI rfl) ?_
                      refine rg_end ?_
                      exact n_then ⟨i + 1, _, rfl, same_lk rfl (same_h0), ⟨rfl, trivial⟩, ⟨hlp0, by omega⟩, by first | omega | (dsimp only; omega)⟩
      ·
        try simp only [decide_eq_true_eq, decide_eq_false_iff_not, Bool.not_eq_true', Bool.not_eq_false', Bool.and_eq_true, Bool.or_eq_true, Bool.or_eq_false_iff, Bool.cond_true_right, Bool.cond_false_right, Bool.cond_true_left, Bool.cond_false_left, ne_eq, Decidable.not_not, bne_iff_ne, beq_iff_eq, beq_eq_false_iff_ne, Bool.not_true, Bool.not_false] at hc1
        refine wp_exit ?_
        refine e_then (e_then (e_blk (?_)))
        refine n_then ?_
        refine wp_seq ?_
        refine rg ?_
        refine st (mvS rfl) ?_
        obtain ⟨zn, hzn⟩ : ∃ z, z = w38.heap.size := ⟨_, rfl⟩
        have hnw := Ow.nil (E := 3) (sz := 1) (enc := encI) (lo := zn) (hi := 0) (w := w38) (fun _ => rfl)
        have hrhnw := hnw.rng
        refine sd (d_appN (xs := at_) hnw sl22 infoz3 (by decide) rfl rfl rfl (rfl) (hx.sl) (fun _ => rfl) (by simp; unfold maxLen; omega) (by simp; omega) (by omega) (Nat.zero_le _) ?_)
        intro nad nc w63 ho64 hnw'
        have hs65 := ho64.size
        clear hnw; have hnw := hnw'; clear hnw'
        have hz68 := ho64.size
        replace hL0 := hL0.out ho64 (by first | omega | (simp only [blk_some, hi1_some] at *; omega))
        replace hL1 := hL1.out ho64 (by first | omega | (simp only [blk_some, hi1_some] at *; omega))
        replace hL2 := hL2.out ho64 (by first | omega | (simp only [blk_some, hi1_some] at *; omega))
        replace hE := hE.step ho64 (by first | omega | (simp only [blk_some, hi1_some] at *; omega))
        replace hP := hP.out ho64 (by first | omega | (simp only [blk_some, hi1_some] at *; omega))
        have hrnhx := hx.rng
        replace hx := hx.out ho64 (by first | omega | (simp only [blk_some, hi1_some] at *; omega))
        have hrnhO9 := hO9.rng
        replace hO9 := hO9.out ho64 (by first | omega | (simp only [blk_some, hi1_some] at *; omega))
        simp only [List.nil_append] at hnw ⊢
        have hnwr := hnw.rng
        obtain ⟨zN, hzN⟩ : ∃ z, z = w63.heap.size := ⟨_, rfl⟩
        replace hnw := hnw.wide (show _ ≤ zN by omega)
        refine st (asS rfl) ?_
        refine rg_end ?_
        refine n_then ?_
        refine wp_seq ?_
        refine wp_seq ?_
        refine rg ?_
        refine st (mvS rfl) ?_
        refine st (y_len Try.underlying22 rfl) ?_
        refine st (mvI rfl) ?_
        refine rg_end ?_
        refine n_then ?_
        refine wp_block ?_
        refine lp (γ := Nat × List Int) [15, 16, 120, 121, 122, 123, 124, 125, 126, 127, 128, 129, 130, 131, 132, 133, 134, 135, 136, 137, 138, 139, 140, 141, 142] (fun ⟨m, b⟩ => [(120, .int .i64 (m : Int))]) (fun ⟨m, b⟩ w_ => Out zn zN w63 w_ ∧ (m : Int) ≤ l2.length ∧ GoP rows b ∧ ¬ Hel rows b ∧ Kept rows at_ t j b ∧ Ow 3 encI 1 zn zN w_ nad nc b) (fun ⟨m, b⟩ => l2.length - m) (0, at_) ⟨rfl, trivial⟩ ⟨Out.refl _ _ _, by omega, hg, hnh, (fun _ _ => rfl), hnw⟩ ?_
        rintro ⟨m, b⟩ hav_ w69 ⟨ho70, hm_, hgb, hnb, hkp, hnw⟩
        have hlp1 := ho70
        have hz71 := ho70.size
        replace hL0 := hL0.out ho70 (by first | omega | (simp only [blk_some, hi1_some] at *; omega))
        replace hL1 := hL1.out ho70 (by first | omega | (simp only [blk_some, hi1_some] at *; omega))
        replace hL2 := hL2.out ho70 (by first | omega | (simp only [blk_some, hi1_some] at *; omega))
        replace hE := hE.step ho70 (by first | omega | (simp only [blk_some, hi1_some] at *; omega))
        replace hP := hP.out ho70 (by first | omega | (simp only [blk_some, hi1_some] at *; omega))
        replace hx := hx.out ho70 (by first | omega | (simp only [blk_some, hi1_some] at *; omega))
        replace hO9 := hO9.out ho70 (by first | omega | (simp only [blk_some, hi1_some] at *; omega))
        refine wp_seq ?_
        refine rg ?_
        refine st (y_lss rfl rfl) ?_
        refine rg_end ?_
        refine n_then ?_
        refine wp_seq ?_
        refine cnd rfl (fun hc4 => ?_) (fun hc4 => ?_)
        ·
          try simp only [decide_eq_true_eq, decide_eq_false_iff_not, Bool.not_eq_true', Bool.not_eq_false', Bool.and_eq_true, Bool.or_eq_true, Bool.or_eq_false_iff, Bool.cond_true_right, Bool.cond_false_right, Bool.cond_true_left, Bool.cond_false_left, ne_eq, Decidable.not_not, bne_iff_ne, beq_iff_eq, beq_eq_false_iff_ne, Bool.not_true, Bool.not_false] at hc4
          have hbl := hgb.len
          refine wp_skip ?_
          refine n_then ?_
          refine wp_seq ?_
          refine wp_block ?_
          refine wp_seq ?_
          refine rg ?_
          refine st (y_ix hL2 sl22 rfl (rfl) rfl (by omega) (by omega)) ?_
          refine st (y_le hL2 na3 rfl (by omega) (by omega) rfl) ?_
          refine st (asI rfl) ?_
          refine rg_end ?_
          refine n_then ?_
          refine wp_seq ?_
          refine rg ?_
          refine st (mvS rfl) ?_
          refine st (mvS rfl) ?_
          refine sc cl20 (ref35_MovesM_ok rows _ _ _ _ b _ _ _ _ _ hP (by omega) (Ow.sl hnw) hln (by omega) at_.length (by omega)) rfl ?_
          rintro v76 w72 ⟨ad7, cc7, l7, rfl, hO7, hmv7, ho73⟩
          have hm7 := mv_len hmv7
          have hl7 := mv_ok hva hgb hnb hmv7
          have hO7r := hO7.rng
          have hz77 := ho73.size
          replace hL0 := hL0.ext ho73
          replace hL1 := hL1.ext ho73
          replace hL2 := hL2.ext ho73
          replace hE := hE.step ho73 (.inl (Nat.le_refl _))
          replace hP := hP.ext ho73
          replace hx := hx.ext ho73
          replace hO9 := hO9.ext ho73
          replace hnw := hnw.ext ho73
          replace hlp1 := hlp1.step ho73 (.inl (Nat.le_refl _))
          refine st (asS rfl) ?_
          refine rg_end ?_
          refine n_then ?_
          refine wp_seq ?_
          refine wp_seq ?_
          refine rg ?_
          refine st (mvS rfl) ?_
          refine st (y_len Try.underlying22 rfl) ?_
          refine st (y_eql rfl rfl) ?_
          refine rg_end ?_
          refine n_then ?_
          refine cnd rfl (fun hc5 => ?_) (fun hc5 => ?_)
          ·
            try simp only [decide_eq_true_eq, decide_eq_false_iff_not, Bool.not_eq_true', Bool.not_eq_false', Bool.and_eq_true, Bool.or_eq_true, Bool.or_eq_false_iff, Bool.cond_true_right, Bool.cond_false_right, Bool.cond_true_left, Bool.cond_false_left, ne_eq, Decidable.not_not, bne_iff_ne, beq_iff_eq, beq_eq_false_iff_ne, Bool.not_true, Bool.not_false] at hc5
            refine wp_exit ?_
            refine e_then (e_blk' rfl (e_then (e_then (e_blk (?_)))))
            refine n_then ?_
            refine wp_seq ?_
            refine wp_seq ?_
            refine rg ?_
            refine st (mvS rfl) ?_
            refine st (y_len Try.underlying22 rfl) ?_
            refine st (mvI rfl) ?_
            refine rg_end ?_
            refine n_then ?_
            refine wp_block ?_
            refine lp (γ := Nat) [6, 18, 145, 146, 147, 148, 149, 150, 151, 152, 153, 154, 155, 156, 157, 158] (fun i => [(145, .int .i64 (i : Int))]) (fun i w_ => Ext w72 w_ ∧ (i : Int) ≤ l9.length) (fun i => l9.length - i) 0 ⟨rfl, trivial⟩ ⟨Out.refl _ _ _, by omega⟩ ?_
            rintro i hav_ w78 ⟨ho79, hi_⟩
            have hlp2 := ho79
            have hz80 := ho79.size
            replace hL0 := hL0.ext ho79
            replace hL1 := hL1.ext ho79
            replace hL2 := hL2.ext ho79
            replace hE := hE.step ho79 (.inl (Nat.le_refl _))
            replace hP := hP.ext ho79
            replace hx := hx.ext ho79
            replace hO9 := hO9.ext ho79
            replace hnw := hnw.ext ho79
            replace hO7 := hO7.ext ho79
            refine wp_seq ?_
            refine rg ?_
            refine st (y_lss rfl rfl) ?_
            refine rg_end ?_
            refine n_then ?_
            refine wp_seq ?_
            refine cnd rfl (fun hc6 => ?_) (fun hc6 => ?_)
            ·
              try simp only [decide_eq_true_eq, decide_eq_false_iff_not, Bool.not_eq_true', Bool.not_eq_false', Bool.and_eq_true, Bool.or_eq_true, Bool.or_eq_false_iff, Bool.cond_true_right, Bool.cond_false_right, Bool.cond_true_left, Bool.cond_false_left, ne_eq, Decidable.not_not, bne_iff_ne, beq_iff_eq, beq_eq_false_iff_ne, Bool.not_true, Bool.not_false] at hc6
              have hij : i < j := by omega
              have hci := hcyc.in htl i
              obtain ⟨u, hu⟩ := Int.eq_ofNat_of_zero_le hci.1
              have hel : el l9 (i : Int) = (u : Int) := by rw [hl9, itL_el hij, hu]
              have hkk := hkp i hij
              rw [hu] at hkk
              have hbl := hgb.len
              refine wp_skip ?_
              refine n_then ?_
              refine wp_seq ?_
              refine wp_block ?_
              refine wp_seq ?_
              refine rg ?_
              refine st (y_ix hO9.sl sl22 rfl (rfl) rfl (by omega) (by omega)) ?_
              refine st (y_le hO9.sl na3 rfl (by omega) (by omega) rfl) ?_
              rw [hel]
              refine st (asI rfl) ?_
              refine rg_end ?_
              refine n_then ?_
              refine wp_seq ?_
              refine rgD 8 (fun w_ => Ext w78 w_) (fun i => false) mixed (by kernel_rfl) ?_
              intro w81 ho82 hs83
              refine ⟨ho82, ?_⟩
              have hx84 := ho82
              refine tn rfl (fun _ hG => mvS rfl) ?_
              refine tn rfl (fun _ hG => mvI rfl) ?_
              refine tn rfl (fun _ hG => y_ix (hnw.ext hG).sl sl22 rfl (by omega) rfl (by omega) (by omega)) ?_
              refine tn rfl (fun _ hG => y_le (hnw.ext hG).sl na3 rfl (by omega) (by omega) rfl) ?_
              refine tn rfl (fun _ hG => mvS rfl) ?_
              refine tn rfl (fun _ hG => mvI rfl) ?_
              refine tn rfl (fun _ hG => y_ix (hx.ext hG).sl sl22 rfl (rfl) rfl (by omega) (by omega)) ?_
              refine tn rfl (fun _ hG => y_le (hx.ext hG).sl na3 rfl (by omega) (by omega) rfl) ?_
              refine t_end ?_
              have hz85 := hx84.size
              replace hL0 := hL0.ext hx84
              replace hL1 := hL1.ext hx84
              replace hL2 := hL2.ext hx84
              replace hE := hE.step hx84 (.inl (Nat.le_refl _))
              replace hP := hP.ext hx84
              replace hx := hx.ext hx84
              replace hO9 := hO9.ext hx84
              replace hnw := hnw.ext hx84
              replace hO7 := hO7.ext hx84
              replace hlp2 := hlp2.step hx84 (.inl (Nat.le_refl _))
              refine st (y_neq rfl rfl) ?_
              refine rg_end ?_
              refine n_then ?_
              refine cnd rfl (fun hc7 => ?_) (fun hc7 => ?_)
              ·
                try simp only [decide_eq_true_eq, decide_eq_false_iff_not, Bool.not_eq_true', Bool.not_eq_false', Bool.and_eq_true, Bool.or_eq_true, Bool.or_eq_false_iff, Bool.cond_true_right, Bool.cond_false_right, Bool.cond_true_left, Bool.cond_false_left, ne_eq, Decidable.not_not, bne_iff_ne, beq_iff_eq, beq_eq_false_iff_ne, Bool.not_true, Bool.not_false] at hc7
                exfalso; exact hc7 hkk
              ·
                try simp only [decide_eq_true_eq, decide_eq_false_iff_not, Bool.not_eq_true', Bool.not_eq_false', Bool.and_eq_true, Bool.or_eq_true, Bool.or_eq_false_iff, Bool.cond_true_right, Bool.cond_false_right, Bool.cond_true_left, Bool.cond_false_left, ne_eq, Decidable.not_not, bne_iff_ne, beq_iff_eq, beq_eq_false_iff_ne, Bool.not_true, Bool.not_false] at hc7
                refine wp_skip ?_
                refine n_blk ?_
                refine n_then ?_
                refine rg ?_
                refine st (y_add rfl rfl (by omega)) ?_
                refine st (mvI rfl) ?_
                refine rg_end ?_
                exact n_then ⟨i + 1, _, rfl, same_lk rfl (same_h0), ⟨rfl, trivial⟩, ⟨hlp2, by omega⟩, by first | omega | (dsimp only; omega)⟩
            ·
              try simp only [decide_eq_true_eq, decide_eq_false_iff_not, Bool.not_eq_true', Bool.not_eq_false', Bool.and_eq_true, Bool.or_eq_true, Bool.or_eq_false_iff, Bool.cond_true_right, Bool.cond_false_right, Bool.cond_true_left, Bool.cond_false_left, ne_eq, Decidable.not_not, bne_iff_ne, beq_iff_eq, beq_eq_false_iff_ne, Bool.not_true, Bool.not_false] at hc6
              have hbl := hgb.len
              refine wp_exit ?_
              refine e_then (e_then (e_blk (?_)))
              refine n_then ?_
              refine wp_seq ?_
              refine rg ?_
              refine st (mvS rfl) ?_
              refine st (mvS rfl) ?_
              refine sc cl17 (dead_SearchM_ok rows _ _ _ _ b _ _ _ _ at_.length 1048576 _ hP (by omega) (Ow.sl hnw) hln (by omega) (by omega)) rfl ?_
              rintro v90 w86 ⟨ad1, cc1, s1, n1, e1, k1, rfl, hck1, hsr1, hO1, ho87⟩
              have he19 : e1 = 19 := by
                rcases sr_all hsm hgb hck1 hsr1 with q | q | q
                · exact absurd hkp (fun z => kept_unsafe hva hg htl hcyc q.2.2.2.safe z)
                · exact q.1
                · exact absurd q.2.2 hnb
              have hz91 := ho87.size
              replace hL0 := hL0.ext ho87
              replace hL1 := hL1.ext ho87
              replace hL2 := hL2.ext ho87
              replace hE := hE.step ho87 (.inl (Nat.le_refl _))
              replace hP := hP.ext ho87
              replace hx := hx.ext ho87
              replace hO9 := hO9.ext ho87
              replace hnw := hnw.ext ho87
              replace hO7 := hO7.ext ho87
              refine st (mvT rfl) ?_
              refine st (y_ext rfl rfl) ?_
              refine st (y_ext rfl rfl) ?_
              refine st (y_ext rfl rfl) ?_
              refine st (asS rfl) ?_
              refine st (asI rfl) ?_
              refine st (asI rfl) ?_
              refine rg_end ?_
              refine n_then ?_
              refine wp_seq ?_
              refine rg ?_
              refine sc cl16 (law36_awake_ok _) rfl ?_
              rintro v96 w92 ⟨rfl, ho93⟩
              have hz97 := ho93.size
              replace hL0 := hL0.ext ho93
              replace hL1 := hL1.ext ho93
              replace hL2 := hL2.ext ho93
              replace hE := hE.step ho93 (.inl (Nat.le_refl _))
              replace hP := hP.ext ho93
              replace hx := hx.ext ho93
              replace hO9 := hO9.ext ho93
              replace hnw := hnw.ext ho93
              replace hO7 := hO7.ext ho93
              replace hO1 := hO1.ext ho93
              refine st (mvB rfl) ?_
              refine stg rfl rfl rfl (mvI rfl) ?_
              refine stg rfl rfl rfl (y_eql rfl rfl) ?_
              refine st (y_pickT rfl rfl (v := .bool _) rfl) ?_
              refine st (asB rfl) ?_
              refine rg_end ?_
              refine n_then ?_
              refine wp_ret ?_
              refine ret1 (v := (.bool _)) Try.results9 rfl ?_
              refine ⟨vb ?_, hE⟩
              rw [he19]; decide
          ·
            try simp only [decide_eq_true_eq, decide_eq_false_iff_not, Bool.not_eq_true', Bool.not_eq_false', Bool.and_eq_true, Bool.or_eq_true, Bool.or_eq_false_iff, Bool.cond_true_right, Bool.cond_false_right, Bool.cond_true_left, Bool.cond_false_left, ne_eq, Decidable.not_not, bne_iff_ne, beq_iff_eq, beq_eq_false_iff_ne, Bool.not_true, Bool.not_false] at hc5
            refine wp_skip ?_
            refine n_then ?_
            refine rg ?_
            refine st (mvS rfl) ?_
            refine st (mvS rfl) ?_
            refine st (mvI rfl) ?_
            refine st (mvS rfl) ?_
            refine st (y_len Try.underlying22 rfl) ?_
            refine sc cl22 (keep_Pick_ok _ _ _ (by omega) (by omega)) rfl ?_
            rintro v102 w98 ⟨rfl, ho99⟩
            have hpk := pick_rng (el l2 (m : Int)) (l7.length : Int) (by omega)
            obtain ⟨q, hq⟩ := Int.eq_ofNat_of_zero_le hpk.1
            rw [hq] at hpk ⊢
            have hql : (q : Int) < (movs rows b rows.length).length := by rw [← hl7]; exact hpk.2
            obtain ⟨u, hu, hul, humv⟩ := movs_get hql
            rw [← hl7] at hu
            have hgu := hgb.rng u hul
            have hl3 := (va_row hva (k := u) (by omega)).l2
            have hz103 := ho99.size
            replace hL0 := hL0.ext ho99
            replace hL1 := hL1.ext ho99
            replace hL2 := hL2.ext ho99
            replace hE := hE.step ho99 (.inl (Nat.le_refl _))
            replace hP := hP.ext ho99
            replace hx := hx.ext ho99
            replace hO9 := hO9.ext ho99
            replace hnw := hnw.ext ho99
            replace hlp1 := hlp1.step ho99 (.inl (Nat.le_refl _))
            replace hO7 := hO7.ext ho99
            refine st (y_ix hO7.sl sl22 rfl (rfl) rfl (by omega) (by omega)) ?_
            refine st (y_le hO7.sl na3 rfl (by omega) (by omega) rfl) ?_
            rw [hu]
            refine st (y_ix hnw.sl sl22 rfl (by omega) rfl (by omega) (by omega)) ?_
            refine st (y_le hnw.sl na3 rfl (by omega) (by omega) rfl) ?_
            refine st (y_add rfl rfl (by omega)) ?_
            refine st (y_ix hnw.sl sl22 rfl (by omega) rfl (by omega) (by omega)) ?_
            refine sd0 (d_se (j := 0) (e' := (el b (u : Int) + 1)) hnw sz3 rfl rfl rfl (by omega) (by omega) (Nat.le_of_ble_eq_true rfl) rfl ?_)
            intro w104 hs106 ho105 hnw'
            have hrhnw := hnw.rng
            clear hnw; have hnw := hnw'; clear hnw'
            have hz107 := ho105.size
            replace hL0 := hL0.out ho105 (by first | omega | (simp only [blk_some, hi1_some] at *; omega))
            replace hL1 := hL1.out ho105 (by first | omega | (simp only [blk_some, hi1_some] at *; omega))
            replace hL2 := hL2.out ho105 (by first | omega | (simp only [blk_some, hi1_some] at *; omega))
            replace hE := hE.step ho105 (by first | omega | (simp only [blk_some, hi1_some] at *; omega))
            replace hP := hP.out ho105 (by first | omega | (simp only [blk_some, hi1_some] at *; omega))
            replace hx := hx.out ho105 (by first | omega | (simp only [blk_some, hi1_some] at *; omega))
            replace hO9 := hO9.out ho105 (by first | omega | (simp only [blk_some, hi1_some] at *; omega))
            replace hlp1 := hlp1.step ho105 (by first | omega | (simp only [blk_some, hi1_some] at *; omega))
            have hrnhO7 := hO7.rng
            replace hO7 := hO7.out ho105 (by first | omega | (simp only [blk_some, hi1_some] at *; omega))
            rw [Int.toNat_natCast] at hnw
            replace hnw : Ow 3 encI 1 zn zN w104 nad nc (nxA b u) := hnw
            refine rg_end ?_
            refine n_blk ?_
            refine n_then ?_
            refine rg ?_
            refine st (y_add rfl rfl (by omega)) ?_
            refine st (mvI rfl) ?_
            refine rg_end ?_
            exact n_then ⟨(m + 1, nxA b u), _, rfl, same_lk rfl (same_h0), ⟨rfl, trivial⟩, ⟨hlp1, by omega, hgb.nx hul humv, hel_nx hva hgb hnb hul humv, kept_nx hva hg htl hcyc hkp humv, hnw⟩, by first | omega | (dsimp only; omega)⟩
        ·
          try simp only [decide_eq_true_eq, decide_eq_false_iff_not, Bool.not_eq_true', Bool.not_eq_false', Bool.and_eq_true, Bool.or_eq_true, Bool.or_eq_false_iff, Bool.cond_true_right, Bool.cond_false_right, Bool.cond_true_left, Bool.cond_false_left, ne_eq, Decidable.not_not, bne_iff_ne, beq_iff_eq, beq_eq_false_iff_ne, Bool.not_true, Bool.not_false] at hc4
          refine wp_exit ?_
          refine e_then (e_then (e_blk (?_)))
          refine n_then ?_
          refine wp_seq ?_
          refine wp_seq ?_
          refine rg ?_
          refine st (mvS rfl) ?_
          refine st (y_len Try.underlying22 rfl) ?_
          refine st (mvI rfl) ?_
          refine rg_end ?_
          refine n_then ?_
          refine wp_block ?_
          refine lp (γ := Nat) [6, 18, 145, 146, 147, 148, 149, 150, 151, 152, 153, 154, 155, 156, 157, 158] (fun i => [(145, .int .i64 (i : Int))]) (fun i w_ => Ext w69 w_ ∧ (i : Int) ≤ l9.length) (fun i => l9.length - i) 0 ⟨rfl, trivial⟩ ⟨Out.refl _ _ _, by omega⟩ ?_
          rintro i hav_ w108 ⟨ho109, hi_⟩
          have hlp2 := ho109
          have hz110 := ho109.size
          replace hL0 := hL0.ext ho109
          replace hL1 := hL1.ext ho109
          replace hL2 := hL2.ext ho109
          replace hE := hE.step ho109 (.inl (Nat.le_refl _))
          replace hP := hP.ext ho109
          replace hx := hx.ext ho109
          replace hO9 := hO9.ext ho109
          replace hnw := hnw.ext ho109
          refine wp_seq ?_
          refine rg ?_
          refine st (y_lss rfl rfl) ?_
          refine rg_end ?_
          refine n_then ?_
          refine wp_seq ?_
          refine cnd rfl (fun hc6 => ?_) (fun hc6 => ?_)
          ·
            try simp only [decide_eq_true_eq, decide_eq_false_iff_not, Bool.not_eq_true', Bool.not_eq_false', Bool.and_eq_true, Bool.or_eq_true, Bool.or_eq_false_iff, Bool.cond_true_right, Bool.cond_false_right, Bool.cond_true_left, Bool.cond_false_left, ne_eq, Decidable.not_not, bne_iff_ne, beq_iff_eq, beq_eq_false_iff_ne, Bool.not_true, Bool.not_false] at hc6
            have hij : i < j := by omega
            have hci := hcyc.in htl i
            obtain ⟨u, hu⟩ := Int.eq_ofNat_of_zero_le hci.1
            have hel : el l9 (i : Int) = (u : Int) := by rw [hl9, itL_el hij, hu]
            have hkk := hkp i hij
            rw [hu] at hkk
            have hbl := hgb.len
            refine wp_skip ?_
            refine n_then ?_
            refine wp_seq ?_
            refine wp_block ?_
            refine wp_seq ?_
            refine rg ?_
            refine st (y_ix hO9.sl sl22 rfl (rfl) rfl (by omega) (by omega)) ?_
            refine st (y_le hO9.sl na3 rfl (by omega) (by omega) rfl) ?_
            rw [hel]
            refine st (asI rfl) ?_
            refine rg_end ?_
            refine n_then ?_
            refine wp_seq ?_
            refine rgD 8 (fun w_ => Ext w108 w_) (fun i => false) mixed (by kernel_rfl) ?_
            intro w111 ho112 hs113
            refine ⟨ho112, ?_⟩
            have hx114 := ho112
            refine tn rfl (fun _ hG => mvS rfl) ?_
            refine tn rfl (fun _ hG => mvI rfl) ?_
            refine tn rfl (fun _ hG => y_ix (hnw.ext hG).sl sl22 rfl (by omega) rfl (by omega) (by omega)) ?_
            refine tn rfl (fun _ hG => y_le (hnw.ext hG).sl na3 rfl (by omega) (by omega) rfl) ?_
            refine tn rfl (fun _ hG => mvS rfl) ?_
            refine tn rfl (fun _ hG => mvI rfl) ?_
            refine tn rfl (fun _ hG => y_ix (hx.ext hG).sl sl22 rfl (rfl) rfl (by omega) (by omega)) ?_
            refine tn rfl (fun _ hG => y_le (hx.ext hG).sl na3 rfl (by omega) (by omega) rfl) ?_
            refine t_end ?_
            have hz115 := hx114.size
            replace hL0 := hL0.ext hx114
            replace hL1 := hL1.ext hx114
            replace hL2 := hL2.ext hx114
            replace hE := hE.step hx114 (.inl (Nat.le_refl _))
            replace hP := hP.ext hx114
            replace hx := hx.ext hx114
            replace hO9 := hO9.ext hx114
            replace hnw := hnw.ext hx114
            replace hlp2 := hlp2.step hx114 (.inl (Nat.le_refl _))
            refine st (y_neq rfl rfl) ?_
            refine rg_end ?_
            refine n_then ?_
            refine cnd rfl (fun hc7 => ?_) (fun hc7 => ?_)
            ·
              try simp only [decide_eq_true_eq, decide_eq_false_iff_not, Bool.not_eq_true', Bool.not_eq_false', Bool.and_eq_true, Bool.or_eq_true, Bool.or_eq_false_iff, Bool.cond_true_right, Bool.cond_false_right, Bool.cond_true_left, Bool.cond_false_left, ne_eq, Decidable.not_not, bne_iff_ne, beq_iff_eq, beq_eq_false_iff_ne, Bool.not_true, Bool.not_false] at hc7
              exfalso; exact hc7 hkk
            ·
              try simp only [decide_eq_true_eq, decide_eq_false_iff_not, Bool.not_eq_true', Bool.not_eq_false', Bool.and_eq_true, Bool.or_eq_true, Bool.or_eq_false_iff, Bool.cond_true_right, Bool.cond_false_right, Bool.cond_true_left, Bool.cond_false_left, ne_eq, Decidable.not_not, bne_iff_ne, beq_iff_eq, beq_eq_false_iff_ne, Bool.not_true, Bool.not_false] at hc7
              refine wp_skip ?_
              refine n_blk ?_
              refine n_then ?_
              refine rg ?_
              refine st (y_add rfl rfl (by omega)) ?_
              refine st (mvI rfl) ?_
              refine rg_end ?_
              exact n_then ⟨i + 1, _, rfl, same_lk rfl (same_h0), ⟨rfl, trivial⟩, ⟨hlp2, by omega⟩, by first | omega | (dsimp only; omega)⟩
          ·
            try simp only [decide_eq_true_eq, decide_eq_false_iff_not, Bool.not_eq_true', Bool.not_eq_false', Bool.and_eq_true, Bool.or_eq_true, Bool.or_eq_false_iff, Bool.cond_true_right, Bool.cond_false_right, Bool.cond_true_left, Bool.cond_false_left, ne_eq, Decidable.not_not, bne_iff_ne, beq_iff_eq, beq_eq_false_iff_ne, Bool.not_true, Bool.not_false] at hc6
            have hbl := hgb.len
            refine wp_exit ?_
            refine e_then (e_then (e_blk (?_)))
            refine n_then ?_
            refine wp_seq ?_
            refine rg ?_
            refine st (mvS rfl) ?_
            refine st (mvS rfl) ?_
            refine sc cl17 (dead_SearchM_ok rows _ _ _ _ b _ _ _ _ at_.length 1048576 _ hP (by omega) (Ow.sl hnw) hln (by omega) (by omega)) rfl ?_
            rintro v120 w116 ⟨ad1, cc1, s1, n1, e1, k1, rfl, hck1, hsr1, hO1, ho117⟩
            have he19 : e1 = 19 := by
              rcases sr_all hsm hgb hck1 hsr1 with q | q | q
              · exact absurd hkp (fun z => kept_unsafe hva hg htl hcyc q.2.2.2.safe z)
              · exact q.1
              · exact absurd q.2.2 hnb
            have hz121 := ho117.size
            replace hL0 := hL0.ext ho117
            replace hL1 := hL1.ext ho117
            replace hL2 := hL2.ext ho117
            replace hE := hE.step ho117 (.inl (Nat.le_refl _))
            replace hP := hP.ext ho117
            replace hx := hx.ext ho117
            replace hO9 := hO9.ext ho117
            replace hnw := hnw.ext ho117
            refine st (mvT rfl) ?_
            refine st (y_ext rfl rfl) ?_
            refine st (y_ext rfl rfl) ?_
            refine st (y_ext rfl rfl) ?_
            refine st (asS rfl) ?_
            refine st (asI rfl) ?_
            refine st (asI rfl) ?_
            refine rg_end ?_
            refine n_then ?_
            refine wp_seq ?_
            refine rg ?_
            refine sc cl16 (law36_awake_ok _) rfl ?_
            rintro v126 w122 ⟨rfl, ho123⟩
            have hz127 := ho123.size
            replace hL0 := hL0.ext ho123
            replace hL1 := hL1.ext ho123
            replace hL2 := hL2.ext ho123
            replace hE := hE.step ho123 (.inl (Nat.le_refl _))
            replace hP := hP.ext ho123
            replace hx := hx.ext ho123
            replace hO9 := hO9.ext ho123
            replace hnw := hnw.ext ho123
            replace hO1 := hO1.ext ho123
            refine st (mvB rfl) ?_
            refine stg rfl rfl rfl (mvI rfl) ?_
            refine stg rfl rfl rfl (y_eql rfl rfl) ?_
            refine st (y_pickT rfl rfl (v := .bool _) rfl) ?_
            refine st (asB rfl) ?_
            refine rg_end ?_
            refine n_then ?_
            refine wp_ret ?_
            refine ret1 (v := (.bool _)) Try.results9 rfl ?_
            refine ⟨vb ?_, hE⟩
            rw [he19]; decide
end Go.Proofs.Yteicgnmggkhlbaa
