/-
  Walks of the functions, printed by a program out of the code and the loops' relations.
-/
import Derived.Test.YteicgnmggkhlbaaWkG
import Derived.Test.YteicgnmggkhlbaaProg
import Derived.KernelRfl
import Derived.Test.YteicgnmggkhlbaaP17
namespace Go.Proofs.Yteicgnmggkhlbaa
open Go.Wk Go.RowKit
set_option linter.unusedVariables false
set_option linter.unusedSimpArgs false
theorem dead_MovesM_ok (rows : List Pw) (ap : Option Addr) (cp l_ h_ : Nat) (at_ : List Int) (aa : Option Addr) (ca la ha_ : Nat) (w : World) (hP : PIn l_ h_ w ap rows) (hpn : (rows.length : Int) ≤ 9223372036854775807) (hA : Ints la ha_ w aa at_) (hln : ∀ r ∈ rows, (r.st.length : Int) ≤ 9223372036854775807 ∧ ∀ s ∈ r.st, (s.pts.length : Int) ≤ 9223372036854775807) (han : (at_.length : Int) ≤ 9223372036854775807) (m : Nat) (hm : m = at_.length) : Cal Try.prog 23 [.slice ap rows.length cp, .slice aa m ca] w (fun v w' => ∃ ad c l, v = .slice ad l.length c ∧ Ow 3 encI 1 w.heap.size w'.heap.size w' ad c l ∧ (∀ e, CkR rows at_ e → (e ≠ 0 → l = []) ∧ (e = 0 → l = movs rows at_ rows.length)) ∧ Ext w w') := by
  subst hm
  exact dead_Moves_ok rows ap cp l_ h_ at_ aa ca la ha_ w hP hpn hA hln han

theorem ref35_MovesM_ok (rows : List Pw) (ap : Option Addr) (cp l_ h_ : Nat) (at_ : List Int) (aa : Option Addr) (ca la ha_ : Nat) (w : World) (hP : PIn l_ h_ w ap rows) (hpn : (rows.length : Int) ≤ 9223372036854775807) (hA : Ints la ha_ w aa at_) (hln : ∀ r ∈ rows, (r.st.length : Int) ≤ 9223372036854775807 ∧ ∀ s ∈ r.st, (s.pts.length : Int) ≤ 9223372036854775807) (han : (at_.length : Int) ≤ 9223372036854775807) (m : Nat) (hm : m = at_.length) : Cal Try.prog 20 [.slice ap rows.length cp, .slice aa m ca] w (fun v w' => ∃ ad c l, v = .slice ad l.length c ∧ Ow 3 encI 1 w.heap.size w'.heap.size w' ad c l ∧ (∀ e, CkR rows at_ e → (e ≠ 0 → l = []) ∧ (e = 0 → l = movs rows at_ rows.length)) ∧ Ext w w') := by
  subst hm
  exact ref35_Moves_ok rows ap cp l_ h_ at_ aa ca la ha_ w hP hpn hA hln han

theorem ref35_LeftM_ok (rows : List Pw) (ap : Option Addr) (cp l_ h_ : Nat) (at_ : List Int) (aa : Option Addr) (ca la ha_ : Nat) (w : World) (hP : PIn l_ h_ w ap rows) (hpn : (rows.length : Int) ≤ 9223372036854775807) (hA : Ints la ha_ w aa at_) (hl : at_.length = rows.length) (m : Nat) (hm : m = at_.length) : Cal Try.prog 21 [.slice ap rows.length cp, .slice aa m ca] w (fun v w' => v = .bool (leftB rows at_) ∧ Ext w w') := by
  subst hm
  exact ref35_Left_ok rows ap cp l_ h_ at_ aa ca la ha_ w hP hpn hA hl

theorem ref35_CheckStateM_ok (rows : List Pw) (ap : Option Addr) (cp l_ h_ : Nat) (at_ : List Int) (aa : Option Addr) (ca la ha_ : Nat) (w : World) (hP : PIn l_ h_ w ap rows) (hpn : (rows.length : Int) ≤ 9223372036854775807) (hA : Ints la ha_ w aa at_) (hln : ∀ r ∈ rows, (r.st.length : Int) ≤ 9223372036854775807 ∧ ∀ s ∈ r.st, (s.pts.length : Int) ≤ 9223372036854775807) (han : (at_.length : Int) ≤ 9223372036854775807) (m : Nat) (hm : m = at_.length) : Cal Try.prog 15 [.slice ap rows.length cp, .slice aa m ca] w (fun v w' => ∃ e, v = .int .i64 e ∧ CkR rows at_ e ∧ Ext w w') := by
  subst hm
  exact ref35_CheckState_ok rows ap cp l_ h_ at_ aa ca la ha_ w hP hpn hA hln han

theorem sr_all {rows : List Pw} {at_ l : List Int} {n e k : Int} (hsm : SmP rows) (hg : GoP rows at_) (hck : CkR rows at_ k) (h : (l, n, e) = srF rows at_ 1048576 k) : (e = 0 ∧ k = 0 ∧ ¬ Hel rows at_ ∧ PlanB rows at_ l) ∨ (e = 19 ∧ k = 0 ∧ ¬ Hel rows at_ ∧ ¬ Safe rows at_) ∨ (e = 17 ∧ k = 17 ∧ Hel rows at_) := by
  rcases ck_cases hck hsm.va hg with ⟨h0, hn⟩ | ⟨h0, hh⟩
  · rcases sr_safe hg hsm.tot.2 h0 h with ⟨q1, q2⟩ | ⟨q1, q2⟩
    · exact .inl ⟨q1, h0, hn, q2⟩
    · exact .inr (.inl ⟨q1, h0, hn, q2⟩)
  · exact .inr (.inr ⟨(sr_bad (by omega) h).trans h0, h0, hh⟩)
theorem drop_el {l : List Int} {k : Nat} (h : (k : Int) < l.length) : l.drop k = el l (k : Int) :: l.drop (k + 1) := by
  rw [List.drop_eq_getElem_cons (by omega)]
  congr 1
  simp [el, show k < l.length by omega]
theorem PlanB.inv {rows : List Pw} {a p : List Int} {x : Int} (h : PlanB rows a (x :: p)) : ∃ t : Nat, x = (t : Int) ∧ t < rows.length ∧ movB rows a (t : Int) = true ∧ (∀ u : Nat, u < t → movB rows a (u : Int) = true → ¬ Safe rows (nxA a u)) ∧ PlanB rows (nxA a t) p := by
  cases h with
  | cons t ht hm hl h => exact ⟨t, rfl, ht, hm, hl, h⟩
theorem PlanB.inv0 {rows : List Pw} {a : List Int} (h : PlanB rows a []) : leftB rows a = true := by
  cases h with
  | nil h => exact h
theorem mem_movs {rows : List Pw} {a : List Int} {k t : Nat} : (t : Int) ∈ movs rows a k ↔ t < k ∧ movB rows a (t : Int) = true := by
  unfold movs
  rw [List.mem_map]
  constructor
  · rintro ⟨u, hu, e⟩
    rw [List.mem_filter, List.mem_range] at hu
    have : u = t := by omega
    subst this; exact hu
  · rintro ⟨h1, h2⟩
    exact ⟨t, List.mem_filter.2 ⟨List.mem_range.2 h1, h2⟩, rfl⟩
theorem mv_ok {rows : List Pw} {a l : List Int} (hva : VaP rows) (hg : GoP rows a) (hn : ¬ Hel rows a) (h : ∀ e, CkR rows a e → (e ≠ 0 → l = []) ∧ (e = 0 → l = movs rows a rows.length)) : l = movs rows a rows.length := by
  obtain ⟨e, he⟩ := ck_ex (rows := rows) (at_ := a)
  exact (h e he).2 (he.of hva hg hn)
theorem can_S {l : List Int} {j : Nat} {x : Int} {c : Bool} (hj : (j : Int) < l.length) (h : c = true ↔ x ∈ l.take j) : (c = true → (true = true ↔ x ∈ l.take (j + 1))) ∧ (c = false → (decide (el l (j : Int) = x) = true ↔ x ∈ l.take (j + 1))) := by
  have e : l.take (j + 1) = l.take j ++ [el l (j : Int)] := tkS hj
  refine ⟨fun hc => ?_, fun hc => ?_⟩
  · rw [e]; simp [h.1 hc]
  · have hn : ¬ x ∈ l.take j := fun q => by have := h.2 q; rw [hc] at this; cases this
    rw [e, decide_eq_true_eq, List.mem_append, List.mem_singleton]
    constructor
    · exact fun q => .inr q.symm
    · rintro (q | q)
      · exact absurd q hn
      · exact q.symm

set_option maxHeartbeats 4000000 in
set_option maxRecDepth 100000 in
theorem law36_DeadlockPlan_ok (a0 : Option Addr) (c0 : Nat) (l0 : List Int) (a1 : Option Addr) (c1 : Nat) (l1 : List Int) (w : World) (hL0 : Ints 0 w.heap.size w a0 l0) (hl0 : (l0.length : Int) ≤ 9223372036854775807) (hL1 : Ints 0 w.heap.size w a1 l1) (hl1 : (l1.length : Int) ≤ 9223372036854775807)  : Cal Try.prog 7 [.slice a0 l0.length c0, .slice a1 l1.length c1] w (fun v w' => v = .bool true ∧ Ext w w') := by
  have hE : Out 0 0 w w := Out.refl _ _ w
  refine enter Try.func7 rfl Try.ntmps7 rfl ?_
  refine wp_seq ?_
  refine rg ?_
  refine st (asB rfl) ?_
  refine rg_end ?_
  refine n_then ?_
  refine wp_seq ?_
  refine rg ?_
  refine st (mvS rfl) ?_
  refine sc cl13 (keep2_Paths_ok _ _ _ _ _ _ hL0 hl0) rfl ?_
  rintro v5 w1 ⟨rows, ap, cp, rfl, hsm, hcp, hP, ho2⟩
  have hva := hsm.va
  have hn3 := hsm.n3
  have hn1 := hsm.n1
  have hln := sm_len hsm
  have hz6 := ho2.size
  replace hL0 := hL0.ext ho2
  replace hL1 := hL1.ext ho2
  replace hE := hE.step ho2 (.inl (Nat.le_refl _))
  refine st (asS rfl) ?_
  refine rg_end ?_
  refine n_then ?_
  refine wp_seq ?_
  refine rg ?_
  refine st (mvS rfl) ?_
  refine st (mvS rfl) ?_
  refine sc cl14 (keep2_At_ok rows _ _ _ _ _ _ _ _ _ _ hP (by omega) hL1 hl1 hsm) rfl ?_
  rintro v11 w7 ⟨ax, cx, at_, rfl, hg, hcx, hx, ho8⟩
  have hl := hg.len
  have hz12 := ho8.size
  replace hL0 := hL0.ext ho8
  replace hL1 := hL1.ext ho8
  replace hE := hE.step ho8 (.inl (Nat.le_refl _))
  replace hP := hP.ext ho8
  refine st (asS rfl) ?_
  refine rg_end ?_
  refine n_then ?_
  refine wp_seq ?_
  refine rg ?_
  refine st (mvS rfl) ?_
  refine st (mvS rfl) ?_
  refine sc cl17 (dead_Search_ok rows _ _ _ _ at_ _ _ _ _ 1048576 _ hP (by omega) (Ow.sl hx) hln (by omega)) rfl ?_
  rintro v17 w13 ⟨ad1, cc1, s1, n1, e1, k1, rfl, hck1, hsr1, hO1, ho14⟩
  have hs1l := sr_len2 hva hg hsr1
  have hall := sr_all hsm hg hck1 hsr1
  have hz18 := ho14.size
  replace hL0 := hL0.ext ho14
  replace hL1 := hL1.ext ho14
  replace hE := hE.step ho14 (.inl (Nat.le_refl _))
  replace hP := hP.ext ho14
  replace hx := hx.ext ho14
  refine st (mvT rfl) ?_
  refine st (y_ext rfl rfl) ?_
  refine st (y_ext rfl rfl) ?_
  refine st (y_ext rfl rfl) ?_
  refine st (asS rfl) ?_
  refine st (asI rfl) ?_
  refine st (asI rfl) ?_
  refine rg_end ?_
  refine n_then ?_
  refine wp_seq ?_
  refine wp_seq ?_
  refine rg ?_
  refine st (mvI rfl) ?_
  refine st (y_neq rfl rfl) ?_
  refine rg_end ?_
  refine n_then ?_
  refine cnd rfl (fun hc0 => ?_) (fun hc0 => ?_)
  ·
    try simp only [decide_eq_true_eq, decide_eq_false_iff_not, Bool.not_eq_true', Bool.not_eq_false', Bool.and_eq_true, Bool.or_eq_true, Bool.or_eq_false_iff, Bool.cond_true_right, Bool.cond_false_right, Bool.cond_true_left, Bool.cond_false_left, ne_eq, Decidable.not_not, bne_iff_ne, beq_iff_eq, beq_eq_false_iff_ne, Bool.not_true, Bool.not_false] at hc0
    refine wp_seq ?_
    refine rg ?_
    refine sc cl16 (law36_awake_ok _) rfl ?_
    rintro v23 w19 ⟨rfl, ho20⟩
    have hz24 := ho20.size
    replace hL0 := hL0.ext ho20
    replace hL1 := hL1.ext ho20
    replace hE := hE.step ho20 (.inl (Nat.le_refl _))
    replace hP := hP.ext ho20
    replace hx := hx.ext ho20
    replace hO1 := hO1.ext ho20
    refine st (mvB rfl) ?_
    refine stg rfl rfl rfl (mvI rfl) ?_
    refine stg rfl rfl rfl (y_eql rfl rfl) ?_
    refine stg rfl rfl rfl (mvB rfl) ?_
    refine gspL 34 rfl (fun hg25 => ?_) (fun hg25 => ?_)
    ·
      have hg25n := hg25; try simp only [decide_eq_true_eq, decide_eq_false_iff_not, Bool.not_eq_true', Bool.not_eq_false', Bool.and_eq_true, Bool.or_eq_true, Bool.or_eq_false_iff, Bool.cond_true_right, Bool.cond_false_right, Bool.cond_true_left, Bool.cond_false_left, ne_eq, Decidable.not_not, bne_iff_ne, beq_iff_eq, beq_eq_false_iff_ne, Bool.not_true, Bool.not_false] at hg25n
      refine sts rfl rfl hg25 ?_
      refine sts rfl rfl hg25 ?_
      refine sts rfl rfl hg25 ?_
      refine stu rfl rfl ?_
      refine stu rfl rfl ?_
      refine stu rfl rfl ?_
      refine stu rfl rfl ?_
      refine sts rfl rfl hg25 ?_
      refine stg rfl rfl rfl (y_pickT rfl hg25 (v := .bool _) rfl) ?_
      refine st (y_pickT rfl rfl (v := .bool _) rfl) ?_
      refine st (asB rfl) ?_
      refine rg_end ?_
      refine n_then ?_
      refine wp_ret ?_
      refine r_then (ret1 (v := (.bool _)) Try.results7 rfl ?_)
      first
      | (refine ⟨vb ?_, hE⟩; rw [q9]; decide)
      | (refine ⟨vb ?_, hE⟩; decide)
    ·
      have hg25n := hg25; try simp only [decide_eq_true_eq, decide_eq_false_iff_not, Bool.not_eq_true', Bool.not_eq_false', Bool.and_eq_true, Bool.or_eq_true, Bool.or_eq_false_iff, Bool.cond_true_right, Bool.cond_false_right, Bool.cond_true_left, Bool.cond_false_left, ne_eq, Decidable.not_not, bne_iff_ne, beq_iff_eq, beq_eq_false_iff_ne, Bool.not_true, Bool.not_false] at hg25n
      refine stg rfl rfl hg25 (mvI rfl) ?_
      refine stg rfl rfl hg25 (y_eql rfl rfl) ?_
      refine stg rfl rfl hg25 (mvB rfl) ?_
      refine gspL 37 rfl (fun hg26 => ?_) (fun hg26 => ?_)
      ·
        have hg26n := hg26; try simp only [decide_eq_true_eq, decide_eq_false_iff_not, Bool.not_eq_true', Bool.not_eq_false', Bool.and_eq_true, Bool.or_eq_true, Bool.or_eq_false_iff, Bool.cond_true_right, Bool.cond_false_right, Bool.cond_true_left, Bool.cond_false_left, ne_eq, Decidable.not_not, bne_iff_ne, beq_iff_eq, beq_eq_false_iff_ne, Bool.not_true, Bool.not_false] at hg26n
        refine stg rfl rfl hg26 (mvS rfl) ?_
        refine stg rfl rfl hg26 (mvS rfl) ?_
        refine scg rfl rfl hg26 cl15 (ref35_CheckState_ok rows _ _ _ _ at_ _ _ _ _ _ hP (by omega) (Ow.sl hx) hln (by omega)) rfl ?_
        rintro v31 w27 ⟨k6, rfl, hck6, ho28⟩
        have q6 := hck1.uniq hck6
        have q9 : k6 = 17 := by
          rcases hall with q | q | q
          · exact absurd q.1 hc0
          · omega
          · omega
        have hz32 := ho28.size
        replace hL0 := hL0.ext ho28
        replace hL1 := hL1.ext ho28
        replace hE := hE.step ho28 (.inl (Nat.le_refl _))
        replace hP := hP.ext ho28
        replace hx := hx.ext ho28
        replace hO1 := hO1.ext ho28
        refine stg rfl rfl hg26 (y_eql rfl rfl) ?_
        refine stg rfl rfl hg25 (y_pickT rfl hg26 (v := .bool _) rfl) ?_
        refine stg rfl rfl rfl (y_pickF rfl hg25 (v := .bool _) rfl) ?_
        refine st (y_pickT rfl rfl (v := .bool _) rfl) ?_
        refine st (asB rfl) ?_
        refine rg_end ?_
        refine n_then ?_
        refine wp_ret ?_
        refine r_then (ret1 (v := (.bool _)) Try.results7 rfl ?_)
        first
        | (refine ⟨vb ?_, hE⟩; rw [q9]; decide)
        | (refine ⟨vb ?_, hE⟩; decide)
      ·
        have hg26n := hg26; try simp only [decide_eq_true_eq, decide_eq_false_iff_not, Bool.not_eq_true', Bool.not_eq_false', Bool.and_eq_true, Bool.or_eq_true, Bool.or_eq_false_iff, Bool.cond_true_right, Bool.cond_false_right, Bool.cond_true_left, Bool.cond_false_left, ne_eq, Decidable.not_not, bne_iff_ne, beq_iff_eq, beq_eq_false_iff_ne, Bool.not_true, Bool.not_false] at hg26n
        exfalso; rcases hall with q | q | q
        · exact hc0 q.1
        · omega
        · omega
  ·
    try simp only [decide_eq_true_eq, decide_eq_false_iff_not, Bool.not_eq_true', Bool.not_eq_false', Bool.and_eq_true, Bool.or_eq_true, Bool.or_eq_false_iff, Bool.cond_true_right, Bool.cond_false_right, Bool.cond_true_left, Bool.cond_false_left, ne_eq, Decidable.not_not, bne_iff_ne, beq_iff_eq, beq_eq_false_iff_ne, Bool.not_true, Bool.not_false] at hc0
    have hpl : PlanB rows at_ s1 ∧ ¬ Hel rows at_ := by
      rcases hall with q | q | q
      · exact ⟨q.2.2.2, q.2.2.1⟩
      · omega
      · omega
    refine wp_skip ?_
    refine n_then ?_
    refine wp_seq ?_
    refine rg ?_
    refine st (mvS rfl) ?_
    obtain ⟨zn, hzn⟩ : ∃ z, z = w13.heap.size := ⟨_, rfl⟩
    have hnw := Ow.nil (E := 3) (sz := 1) (enc := encI) (lo := zn) (hi := 0) (w := w13) (fun _ => rfl)
    have hrhnw := hnw.rng
    refine sd (d_appN (xs := at_) hnw sl22 infoz3 (by decide) rfl rfl rfl (rfl) (hx.sl) (fun _ => rfl) (by simp; unfold maxLen; omega) (by simp; omega) (by omega) (Nat.zero_le _) ?_)
    intro nad nc w33 ho34 hnw'
    have hs35 := ho34.size
    clear hnw; have hnw := hnw'; clear hnw'
    have hz38 := ho34.size
    replace hL0 := hL0.out ho34 (by first | omega | (simp only [blk_some, hi1_some] at *; omega))
    replace hL1 := hL1.out ho34 (by first | omega | (simp only [blk_some, hi1_some] at *; omega))
    replace hE := hE.step ho34 (by first | omega | (simp only [blk_some, hi1_some] at *; omega))
    replace hP := hP.out ho34 (by first | omega | (simp only [blk_some, hi1_some] at *; omega))
    have hrnhx := hx.rng
    replace hx := hx.out ho34 (by first | omega | (simp only [blk_some, hi1_some] at *; omega))
    have hrnhO1 := hO1.rng
    replace hO1 := hO1.out ho34 (by first | omega | (simp only [blk_some, hi1_some] at *; omega))
    simp only [List.nil_append] at hnw ⊢
    have hnwr := hnw.rng
    obtain ⟨zN, hzN⟩ : ∃ z, z = w33.heap.size := ⟨_, rfl⟩
    replace hnw := hnw.wide (show _ ≤ zN by omega)
    refine st (asS rfl) ?_
    refine rg_end ?_
    refine n_then ?_
    refine wp_seq ?_
    refine wp_seq ?_
    refine rg ?_
    refine st (mvS rfl) ?_
    refine st (y_len Try.underlying22 rfl) ?_
    refine st (mvI rfl) ?_
    refine rg_end ?_
    refine n_then ?_
    refine wp_block ?_
    refine lp (γ := Nat × List Int) [4, 12, 13, 15, 49, 50, 51, 52, 53, 54, 55, 56, 57, 58, 59, 60, 61, 62, 63, 64, 65, 66, 67, 68, 69, 70, 71, 72, 73, 74, 75, 76, 77, 78, 79, 80, 81, 82, 83, 84, 85, 86] (fun ⟨k, b⟩ => [(49, .int .i64 (k : Int))]) (fun ⟨k, b⟩ w_ => Out zn zN w33 w_ ∧ (k : Int) ≤ s1.length ∧ PlanB rows b (s1.drop k) ∧ GoP rows b ∧ ¬ Hel rows b ∧ Ow 3 encI 1 zn zN w_ nad nc b) (fun ⟨k, b⟩ => s1.length - k) (0, at_) ⟨rfl, trivial⟩ ⟨Out.refl _ _ _, by omega, by simpa using hpl.1, hg, hpl.2, hnw⟩ ?_
    rintro ⟨k, b⟩ hav_ w39 ⟨ho40, hk_, hpb, hgb, hnb, hnw⟩
    have hlp0 := ho40
    have hz41 := ho40.size
    replace hL0 := hL0.out ho40 (by first | omega | (simp only [blk_some, hi1_some] at *; omega))
    replace hL1 := hL1.out ho40 (by first | omega | (simp only [blk_some, hi1_some] at *; omega))
    replace hE := hE.step ho40 (by first | omega | (simp only [blk_some, hi1_some] at *; omega))
    replace hP := hP.out ho40 (by first | omega | (simp only [blk_some, hi1_some] at *; omega))
    replace hx := hx.out ho40 (by first | omega | (simp only [blk_some, hi1_some] at *; omega))
    replace hO1 := hO1.out ho40 (by first | omega | (simp only [blk_some, hi1_some] at *; omega))
    refine wp_seq ?_
    refine rg ?_
    refine st (y_lss rfl rfl) ?_
    refine rg_end ?_
    refine n_then ?_
    refine wp_seq ?_
    refine cnd rfl (fun hc1 => ?_) (fun hc1 => ?_)
    ·
      try simp only [decide_eq_true_eq, decide_eq_false_iff_not, Bool.not_eq_true', Bool.not_eq_false', Bool.and_eq_true, Bool.or_eq_true, Bool.or_eq_false_iff, Bool.cond_true_right, Bool.cond_false_right, Bool.cond_true_left, Bool.cond_false_left, ne_eq, Decidable.not_not, bne_iff_ne, beq_iff_eq, beq_eq_false_iff_ne, Bool.not_true, Bool.not_false] at hc1
      rw [drop_el hc1] at hpb
      obtain ⟨t, ht, htl, hmv, hlt, hpb1⟩ := hpb.inv
      have hbl := hgb.len
      have hgt := hgb.rng t htl
      have hl2 := (va_row hva (k := t) (by omega)).l2
      refine wp_skip ?_
      refine n_then ?_
      refine wp_seq ?_
      refine wp_block ?_
      refine wp_seq ?_
      refine rg ?_
      refine st (y_ix hO1.sl sl22 rfl (rfl) rfl (by omega) (by omega)) ?_
      refine st (y_le hO1.sl na3 rfl (by omega) (by omega) rfl) ?_
      rw [ht]
      refine st (asI rfl) ?_
      refine rg_end ?_
      refine n_then ?_
      refine wp_seq ?_
      refine rg ?_
      refine st (asB rfl) ?_
      refine rg_end ?_
      refine n_then ?_
      refine wp_seq ?_
      refine wp_seq ?_
      refine rg ?_
      refine st (mvS rfl) ?_
      refine st (mvS rfl) ?_
      refine sc cl23 (dead_MovesM_ok rows _ _ _ _ b _ _ _ _ _ hP (by omega) (Ow.sl hnw) hln (by omega) at_.length (by omega)) rfl ?_
      rintro v46 w42 ⟨ad7, cc7, l7, rfl, hO7, hmv7, ho43⟩
      have hm7 := mv_len hmv7
      have hl7 := mv_ok hva hgb hnb hmv7
      have hin7 : (t : Int) ∈ l7 := by rw [hl7]; exact mem_movs.2 ⟨htl, hmv⟩
      have hz47 := ho43.size
      replace hL0 := hL0.ext ho43
      replace hL1 := hL1.ext ho43
      replace hE := hE.step ho43 (.inl (Nat.le_refl _))
      replace hP := hP.ext ho43
      replace hx := hx.ext ho43
      replace hO1 := hO1.ext ho43
      replace hnw := hnw.ext ho43
      replace hlp0 := hlp0.step ho43 (.inl (Nat.le_refl _))
      refine st (y_len Try.underlying22 rfl) ?_
      refine st (mvI rfl) ?_
      refine rg_end ?_
      refine n_then ?_
      refine wp_block ?_
      refine lp (γ := Nat × Bool) [13, 15, 57, 58, 59, 60, 61, 62, 63, 64, 65, 66, 67] (fun ⟨j, can⟩ => [(57, .int .i64 (j : Int)), (13, .bool can)]) (fun ⟨j, can⟩ w_ => Ext w42 w_ ∧ (j : Int) ≤ l7.length ∧ (can = true ↔ (t : Int) ∈ l7.take j)) (fun ⟨j, can⟩ => l7.length - j) (0, false) ⟨rfl, rfl, trivial⟩ ⟨Out.refl _ _ _, by omega, by simp⟩ ?_
      rintro ⟨j, can⟩ hav_ w48 ⟨ho49, hj_, hcan⟩
      have hlp1 := ho49
      have hz50 := ho49.size
      replace hL0 := hL0.ext ho49
      replace hL1 := hL1.ext ho49
      replace hE := hE.step ho49 (.inl (Nat.le_refl _))
      replace hP := hP.ext ho49
      replace hx := hx.ext ho49
      replace hO1 := hO1.ext ho49
      replace hnw := hnw.ext ho49
      replace hlp0 := hlp0.step ho49 (.inl (Nat.le_refl _))
      replace hO7 := hO7.ext ho49
      refine wp_seq ?_
      refine rg ?_
      refine st (y_lss rfl rfl) ?_
      refine rg_end ?_
      refine n_then ?_
      refine wp_seq ?_
      refine cnd rfl (fun hc2 => ?_) (fun hc2 => ?_)
      ·
        try simp only [decide_eq_true_eq, decide_eq_false_iff_not, Bool.not_eq_true', Bool.not_eq_false', Bool.and_eq_true, Bool.or_eq_true, Bool.or_eq_false_iff, Bool.cond_true_right, Bool.cond_false_right, Bool.cond_true_left, Bool.cond_false_left, ne_eq, Decidable.not_not, bne_iff_ne, beq_iff_eq, beq_eq_false_iff_ne, Bool.not_true, Bool.not_false] at hc2
        refine wp_skip ?_
        refine n_then ?_
        refine wp_seq ?_
        refine wp_block ?_
        refine wp_seq ?_
        refine rg ?_
        refine st (y_ix hO7.sl sl22 rfl (rfl) rfl (by omega) (by omega)) ?_
        refine st (y_le hO7.sl na3 rfl (by omega) (by omega) rfl) ?_
        refine st (asI rfl) ?_
        refine rg_end ?_
        refine n_then ?_
        refine rg ?_
        refine st (mvB rfl) ?_
        refine st (mvB rfl) ?_
        refine gspL 62 rfl (fun hg51 => ?_) (fun hg51 => ?_)
        ·
          have hg51n := hg51; try simp only [decide_eq_true_eq, decide_eq_false_iff_not, Bool.not_eq_true', Bool.not_eq_false', Bool.and_eq_true, Bool.or_eq_true, Bool.or_eq_false_iff, Bool.cond_true_right, Bool.cond_false_right, Bool.cond_true_left, Bool.cond_false_left, ne_eq, Decidable.not_not, bne_iff_ne, beq_iff_eq, beq_eq_false_iff_ne, Bool.not_true, Bool.not_false] at hg51n
          refine sts rfl rfl hg51 ?_
          refine sts rfl rfl hg51 ?_
          refine sts rfl rfl hg51 ?_
          refine st (y_pickT rfl hg51 (v := .bool _) rfl) ?_
          refine st (asB rfl) ?_
          refine rg_end ?_
          refine n_blk ?_
          refine n_then ?_
          refine rg ?_
          refine st (y_add rfl rfl (by omega)) ?_
          refine st (mvI rfl) ?_
          refine rg_end ?_
          exact n_then ⟨(j + 1, _), _, rfl, same_lk rfl (same_h0), ⟨rfl, rfl, trivial⟩, ⟨hlp1, by omega, (by first | exact (can_S hc2 hcan).1 (by assumption) | exact (can_S hc2 hcan).2 (by assumption))⟩, by first | omega | (dsimp only; omega)⟩
        ·
          have hg51n := hg51; try simp only [decide_eq_true_eq, decide_eq_false_iff_not, Bool.not_eq_true', Bool.not_eq_false', Bool.and_eq_true, Bool.or_eq_true, Bool.or_eq_false_iff, Bool.cond_true_right, Bool.cond_false_right, Bool.cond_true_left, Bool.cond_false_left, ne_eq, Decidable.not_not, bne_iff_ne, beq_iff_eq, beq_eq_false_iff_ne, Bool.not_true, Bool.not_false] at hg51n
          refine stg rfl rfl hg51 (mvI rfl) ?_
          refine stg rfl rfl hg51 (mvI rfl) ?_
          refine stg rfl rfl hg51 (y_eql rfl rfl) ?_
          refine st (y_pickF rfl hg51 (v := .bool _) rfl) ?_
          refine st (asB rfl) ?_
          refine rg_end ?_
          refine n_blk ?_
          refine n_then ?_
          refine rg ?_
          refine st (y_add rfl rfl (by omega)) ?_
          refine st (mvI rfl) ?_
          refine rg_end ?_
          exact n_then ⟨(j + 1, _), _, rfl, same_lk rfl (same_h0), ⟨rfl, rfl, trivial⟩, ⟨hlp1, by omega, (by first | exact (can_S hc2 hcan).1 (by assumption) | exact (can_S hc2 hcan).2 (by assumption))⟩, by first | omega | (dsimp only; omega)⟩
      ·
        try simp only [decide_eq_true_eq, decide_eq_false_iff_not, Bool.not_eq_true', Bool.not_eq_false', Bool.and_eq_true, Bool.or_eq_true, Bool.or_eq_false_iff, Bool.cond_true_right, Bool.cond_false_right, Bool.cond_true_left, Bool.cond_false_left, ne_eq, Decidable.not_not, bne_iff_ne, beq_iff_eq, beq_eq_false_iff_ne, Bool.not_true, Bool.not_false] at hc2
        rw [tkE hc2] at hcan
        have hct := hcan.2 hin7
        refine wp_exit ?_
        refine e_then (e_then (e_blk (?_)))
        refine n_then ?_
        refine wp_seq ?_
        refine wp_seq ?_
        refine rg ?_
        refine st (mvB rfl) ?_
        refine st (y_not rfl) ?_
        refine st (mvB rfl) ?_
        refine gspL 70 rfl (fun hg52 => ?_) (fun hg52 => ?_)
        ·
          have hg52n := hg52; try simp only [decide_eq_true_eq, decide_eq_false_iff_not, Bool.not_eq_true', Bool.not_eq_false', Bool.and_eq_true, Bool.or_eq_true, Bool.or_eq_false_iff, Bool.cond_true_right, Bool.cond_false_right, Bool.cond_true_left, Bool.cond_false_left, ne_eq, Decidable.not_not, bne_iff_ne, beq_iff_eq, beq_eq_false_iff_ne, Bool.not_true, Bool.not_false] at hg52n
          exact absurd hct (by simpa using hg52)
        ·
          have hg52n := hg52; try simp only [decide_eq_true_eq, decide_eq_false_iff_not, Bool.not_eq_true', Bool.not_eq_false', Bool.and_eq_true, Bool.or_eq_true, Bool.or_eq_false_iff, Bool.cond_true_right, Bool.cond_false_right, Bool.cond_true_left, Bool.cond_false_left, ne_eq, Decidable.not_not, bne_iff_ne, beq_iff_eq, beq_eq_false_iff_ne, Bool.not_true, Bool.not_false] at hg52n
          refine stg rfl rfl hg52 (mvI rfl) ?_
          refine stg rfl rfl hg52 (y_lss rfl rfl) ?_
          refine st (y_pickF rfl hg52 (v := .bool _) rfl) ?_
          refine st (mvB rfl) ?_
          refine gspL 74 rfl (fun hg53 => ?_) (fun hg53 => ?_)
          ·
            have hg53n := hg53; try simp only [decide_eq_true_eq, decide_eq_false_iff_not, Bool.not_eq_true', Bool.not_eq_false', Bool.and_eq_true, Bool.or_eq_true, Bool.or_eq_false_iff, Bool.cond_true_right, Bool.cond_false_right, Bool.cond_true_left, Bool.cond_false_left, ne_eq, Decidable.not_not, bne_iff_ne, beq_iff_eq, beq_eq_false_iff_ne, Bool.not_true, Bool.not_false] at hg53n
            exfalso; omega
          ·
            have hg53n := hg53; try simp only [decide_eq_true_eq, decide_eq_false_iff_not, Bool.not_eq_true', Bool.not_eq_false', Bool.and_eq_true, Bool.or_eq_true, Bool.or_eq_false_iff, Bool.cond_true_right, Bool.cond_false_right, Bool.cond_true_left, Bool.cond_false_left, ne_eq, Decidable.not_not, bne_iff_ne, beq_iff_eq, beq_eq_false_iff_ne, Bool.not_true, Bool.not_false] at hg53n
            refine stg rfl rfl hg53 (mvI rfl) ?_
            refine stg rfl rfl hg53 (mvS rfl) ?_
            refine stg rfl rfl hg53 (y_len Try.underlying23 rfl) ?_
            refine stg rfl rfl hg53 (y_geq rfl rfl) ?_
            refine st (y_pickF rfl hg53 (v := .bool _) rfl) ?_
            refine rg_end ?_
            refine n_then ?_
            refine cnd rfl (fun hc3 => ?_) (fun hc3 => ?_)
            ·
              try simp only [decide_eq_true_eq, decide_eq_false_iff_not, Bool.not_eq_true', Bool.not_eq_false', Bool.and_eq_true, Bool.or_eq_true, Bool.or_eq_false_iff, Bool.cond_true_right, Bool.cond_false_right, Bool.cond_true_left, Bool.cond_false_left, ne_eq, Decidable.not_not, bne_iff_ne, beq_iff_eq, beq_eq_false_iff_ne, Bool.not_true, Bool.not_false] at hc3
              exfalso; omega
            ·
              try simp only [decide_eq_true_eq, decide_eq_false_iff_not, Bool.not_eq_true', Bool.not_eq_false', Bool.and_eq_true, Bool.or_eq_true, Bool.or_eq_false_iff, Bool.cond_true_right, Bool.cond_false_right, Bool.cond_true_left, Bool.cond_false_left, ne_eq, Decidable.not_not, bne_iff_ne, beq_iff_eq, beq_eq_false_iff_ne, Bool.not_true, Bool.not_false] at hc3
              refine wp_skip ?_
              refine n_then ?_
              refine rg ?_
              refine st (mvS rfl) ?_
              refine st (mvI rfl) ?_
              refine st (y_ix hnw.sl sl22 rfl (by omega) rfl (by omega) (by omega)) ?_
              refine st (y_le hnw.sl na3 rfl (by omega) (by omega) rfl) ?_
              refine st (y_add rfl rfl (by omega)) ?_
              refine st (y_ix hnw.sl sl22 rfl (by omega) rfl (by omega) (by omega)) ?_
              refine sd0 (d_se (j := 0) (e' := (el b (t : Int) + 1)) hnw sz3 rfl rfl rfl (by omega) (by omega) (Nat.le_of_ble_eq_true rfl) rfl ?_)
              intro w54 hs56 ho55 hnw'
              have hrhnw := hnw.rng
              clear hnw; have hnw := hnw'; clear hnw'
              have hz57 := ho55.size
              replace hL0 := hL0.out ho55 (by first | omega | (simp only [blk_some, hi1_some] at *; omega))
              replace hL1 := hL1.out ho55 (by first | omega | (simp only [blk_some, hi1_some] at *; omega))
              replace hE := hE.step ho55 (by first | omega | (simp only [blk_some, hi1_some] at *; omega))
              replace hP := hP.out ho55 (by first | omega | (simp only [blk_some, hi1_some] at *; omega))
              replace hx := hx.out ho55 (by first | omega | (simp only [blk_some, hi1_some] at *; omega))
              replace hO1 := hO1.out ho55 (by first | omega | (simp only [blk_some, hi1_some] at *; omega))
              replace hlp0 := hlp0.step ho55 (by first | omega | (simp only [blk_some, hi1_some] at *; omega))
              have hrnhO7 := hO7.rng
              replace hO7 := hO7.out ho55 (by first | omega | (simp only [blk_some, hi1_some] at *; omega))
              rw [Int.toNat_natCast] at hnw
              replace hnw : Ow 3 encI 1 zn zN w54 nad nc (nxA b t) := hnw
              refine rg_end ?_
              refine n_blk ?_
              refine n_then ?_
              refine rg ?_
              refine st (y_add rfl rfl (by omega)) ?_
              refine st (mvI rfl) ?_
              refine rg_end ?_
              exact n_then ⟨(k + 1, nxA b t), _, rfl, same_lk rfl (same_hav rfl (same_lk rfl (same_h0))), ⟨rfl, trivial⟩, ⟨hlp0, by omega, hpb1, hgb.nx htl hmv, hel_nx hva hgb hnb htl hmv, hnw⟩, by first | omega | (dsimp only; omega)⟩
    ·
      try simp only [decide_eq_true_eq, decide_eq_false_iff_not, Bool.not_eq_true', Bool.not_eq_false', Bool.and_eq_true, Bool.or_eq_true, Bool.or_eq_false_iff, Bool.cond_true_right, Bool.cond_false_right, Bool.cond_true_left, Bool.cond_false_left, ne_eq, Decidable.not_not, bne_iff_ne, beq_iff_eq, beq_eq_false_iff_ne, Bool.not_true, Bool.not_false] at hc1
      rw [List.drop_eq_nil_of_le (by omega)] at hpb
      have hlf := hpb.inv0
      have hbl := hgb.len
      refine wp_exit ?_
      refine e_then (e_then (e_blk (?_)))
      refine n_then ?_
      refine wp_seq ?_
      refine rg ?_
      refine sc cl16 (law36_awake_ok _) rfl ?_
      rintro v62 w58 ⟨rfl, ho59⟩
      have hz63 := ho59.size
      replace hL0 := hL0.ext ho59
      replace hL1 := hL1.ext ho59
      replace hE := hE.step ho59 (.inl (Nat.le_refl _))
      replace hP := hP.ext ho59
      replace hx := hx.ext ho59
      replace hO1 := hO1.ext ho59
      replace hnw := hnw.ext ho59
      refine st (mvB rfl) ?_
      refine stg rfl rfl rfl (mvS rfl) ?_
      refine stg rfl rfl rfl (mvS rfl) ?_
      refine scg rfl rfl rfl cl21 (ref35_LeftM_ok rows _ _ _ _ b _ _ _ _ _ hP (by omega) (Ow.sl hnw) (by omega) at_.length (by omega)) rfl ?_
      rintro v68 w64 ⟨rfl, ho65⟩
      rw [hlf]
      have hz69 := ho65.size
      replace hL0 := hL0.ext ho65
      replace hL1 := hL1.ext ho65
      replace hE := hE.step ho65 (.inl (Nat.le_refl _))
      replace hP := hP.ext ho65
      replace hx := hx.ext ho65
      replace hO1 := hO1.ext ho65
      replace hnw := hnw.ext ho65
      refine st (y_pickT rfl rfl (v := .bool _) rfl) ?_
      refine st (asB rfl) ?_
      refine rg_end ?_
      refine n_then ?_
      refine wp_ret ?_
      refine ret1 (v := (.bool _)) Try.results7 rfl ?_
      exact ⟨rfl, hE⟩
end Go.Proofs.Yteicgnmggkhlbaa
