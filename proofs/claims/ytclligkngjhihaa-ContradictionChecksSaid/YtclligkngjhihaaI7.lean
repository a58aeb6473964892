/-
  Walks of the functions, printed by a program out of the code and the loops' relations.
-/
import Derived.Test.YtclligkngjhihaaWkD
import Derived.Test.YtclligkngjhihaaProg
import Derived.KernelRfl
import Derived.Test.YtclligkngjhihaaI6
import Derived.Test.YtclligkngjhihaaIn
namespace Go.Proofs.Ytclligkngjhihaa
open Go.Wk Go.RowKit
set_option linter.unusedVariables false
set_option linter.unusedSimpArgs false
theorem bsl22_2 (a0 : Int) (a1 : Int) (w : World) : (Instr.buildSlice 22 2 [(0, (.int .i64 a0)), (1, (.int .i64 a1))].toArray).run Try.prog w = .ok (.slice (some ⟨w.heap.size, 0, none⟩) 2 2) (w.alloc (.cells [(.int .i64 a0), (.int .i64 a1)].toArray 3)) := by kernel_rfl
theorem cl56 : Callable Try.prog 56 := ⟨Try.call56⟩
theorem cl57 : Callable Try.prog 57 := ⟨Try.call57⟩
theorem cl70 : Callable Try.prog 70 := ⟨Try.call70⟩

set_option maxRecDepth 100000 in
theorem keep_Same_Ac_ok (a b : List Ac) (aa ab : Option Addr) (ca cb la ha_ lb hb_ : Nat) (w : World) (hA : Sl encAc 6 la ha_ w aa a) (hB : Sl encAc 6 lb hb_ w ab b) (hn : (a.length : Int) ≤ 9223372036854775807) : Cal Try.prog 70 [.slice aa a.length ca, .slice ab b.length cb] w (fun v w' => v = .bool (decide (a = b)) ∧ Ext w w') := by
  have hE : Out 0 0 w w := Out.refl _ _ w
  refine enter Try.func70 rfl Try.ntmps70 rfl ?_
  refine wp_seq ?_
  refine rg ?_
  refine st (asB rfl) ?_
  refine rg_end ?_
  refine n_then ?_
  refine wp_seq ?_
  refine wp_seq ?_
  refine rg ?_
  refine st (mvS rfl) ?_
  refine st (y_len Try.underlying24 rfl) ?_
  refine st (mvS rfl) ?_
  refine st (y_len Try.underlying24 rfl) ?_
  refine st (y_neq rfl rfl) ?_
  refine rg_end ?_
  refine n_then ?_
  refine cnd rfl (fun hc0 => ?_) (fun hc0 => ?_)
  ·
    try simp only [decide_eq_true_eq, decide_eq_false_iff_not, Bool.not_eq_true', Bool.not_eq_false', Bool.and_eq_true, Bool.or_eq_true, Bool.or_eq_false_iff, Bool.cond_true_right, Bool.cond_false_right, Bool.cond_true_left, Bool.cond_false_left, ne_eq, Decidable.not_not, bne_iff_ne, beq_iff_eq, beq_eq_false_iff_ne, Bool.not_true, Bool.not_false] at hc0
    refine wp_seq ?_
    refine rg ?_
    refine st (asB rfl) ?_
    refine rg_end ?_
    refine n_then ?_
    refine wp_ret ?_
    refine r_then (ret1 (v := (.bool _)) Try.results70 rfl ?_)
    exact ⟨vb (by simp; intro h; subst h; omega), hE⟩
  ·
    try simp only [decide_eq_true_eq, decide_eq_false_iff_not, Bool.not_eq_true', Bool.not_eq_false', Bool.and_eq_true, Bool.or_eq_true, Bool.or_eq_false_iff, Bool.cond_true_right, Bool.cond_false_right, Bool.cond_true_left, Bool.cond_false_left, ne_eq, Decidable.not_not, bne_iff_ne, beq_iff_eq, beq_eq_false_iff_ne, Bool.not_true, Bool.not_false] at hc0
    have hln : a.length = b.length := by omega
    refine wp_skip ?_
    refine n_then ?_
    refine wp_seq ?_
    refine wp_seq ?_
    refine rg ?_
    refine st (mvS rfl) ?_
    refine st (y_len Try.underlying24 rfl) ?_
    refine st (mvI rfl) ?_
    refine rg_end ?_
    refine n_then ?_
    refine wp_block ?_
    refine lp (γ := Nat) [4, 5, 13, 14, 15, 16, 17, 18, 19, 20, 21, 22, 23, 24, 25] (fun k => [(13, .int .i64 (k : Int))]) (fun k w_ => Ext w w_ ∧ (k : Int) ≤ a.length ∧ ∀ q : Nat, q < k → el a q = el b q) (fun k => a.length - k) 0 ⟨rfl, trivial⟩ ⟨Out.refl _ _ _, by omega, fun q hq => by omega⟩ ?_
    rintro k hav_ w1 ⟨ho2, hk, hall⟩
    have hlp0 := ho2
    have hz3 := ho2.size
    replace hA := hA.ext ho2
    replace hB := hB.ext ho2
    replace hE := hE.step ho2 (.inl (Nat.le_refl _))
    refine wp_seq ?_
    refine rg ?_
    refine st (y_lss rfl rfl) ?_
    refine rg_end ?_
    refine n_then ?_
    refine wp_seq ?_
    refine cnd rfl (fun hc1 => ?_) (fun hc1 => ?_)
    ·
      try simp only [decide_eq_true_eq, decide_eq_false_iff_not, Bool.not_eq_true', Bool.not_eq_false', Bool.and_eq_true, Bool.or_eq_true, Bool.or_eq_false_iff, Bool.cond_true_right, Bool.cond_false_right, Bool.cond_true_left, Bool.cond_false_left, ne_eq, Decidable.not_not, bne_iff_ne, beq_iff_eq, beq_eq_false_iff_ne, Bool.not_true, Bool.not_false] at hc1
      refine wp_skip ?_
      refine n_then ?_
      refine wp_seq ?_
      refine wp_block ?_
      refine wp_seq ?_
      refine rg ?_
      refine st (mvI rfl) ?_
      refine st (asI rfl) ?_
      refine rg_end ?_
      refine n_then ?_
      refine wp_seq ?_
      refine rgD 8 (fun w_ => Ext w1 w_) (fun i => false) mixed (by kernel_rfl) ?_
      intro w4 ho5 hs6
      refine ⟨ho5, ?_⟩
      have hx7 := ho5
      refine tn rfl (fun _ hG => mvS rfl) ?_
      refine tn rfl (fun _ hG => mvI rfl) ?_
      refine tn rfl (fun _ hG => y_ix (hA.ext hG) sl24 rfl (rfl) rfl (by omega) (by omega)) ?_
      refine tn rfl (fun _ hG => y_lw (hA.ext hG) agg36 rfl (by omega) (by omega)) ?_
      refine tn rfl (fun _ hG => mvS rfl) ?_
      refine tn rfl (fun _ hG => mvI rfl) ?_
      refine tn rfl (fun _ hG => y_ix (hB.ext hG) sl24 rfl (rfl) rfl (by omega) (by omega)) ?_
      refine tn rfl (fun _ hG => y_lw (hB.ext hG) agg36 rfl (by omega) (by omega)) ?_
      refine t_end ?_
      have hz8 := hx7.size
      replace hA := hA.ext hx7
      replace hB := hB.ext hx7
      replace hE := hE.step hx7 (.inl (Nat.le_refl _))
      replace hlp0 := hlp0.step hx7 (.inl (Nat.le_refl _))
      refine st (y_neqS (eqAc _ _) eqg36 rfl rfl) ?_
      refine rg_end ?_
      refine n_then ?_
      refine cnd rfl (fun hc2 => ?_) (fun hc2 => ?_)
      ·
        try simp only [decide_eq_true_eq, decide_eq_false_iff_not, Bool.not_eq_true', Bool.not_eq_false', Bool.and_eq_true, Bool.or_eq_true, Bool.or_eq_false_iff, Bool.cond_true_right, Bool.cond_false_right, Bool.cond_true_left, Bool.cond_false_left, ne_eq, Decidable.not_not, bne_iff_ne, beq_iff_eq, beq_eq_false_iff_ne, Bool.not_true, Bool.not_false] at hc2
        refine wp_seq ?_
        refine rg ?_
        refine st (asB rfl) ?_
        refine rg_end ?_
        refine n_then ?_
        refine wp_ret ?_
        refine r_blk (r_then (r_then (r_blk (r_then (ret1 (v := (.bool _)) Try.results70 rfl ?_)))))
        exact ⟨vb (by simp; intro h; subst h; exact absurd rfl hc2), hE⟩
      ·
        try simp only [decide_eq_true_eq, decide_eq_false_iff_not, Bool.not_eq_true', Bool.not_eq_false', Bool.and_eq_true, Bool.or_eq_true, Bool.or_eq_false_iff, Bool.cond_true_right, Bool.cond_false_right, Bool.cond_true_left, Bool.cond_false_left, ne_eq, Decidable.not_not, bne_iff_ne, beq_iff_eq, beq_eq_false_iff_ne, Bool.not_true, Bool.not_false] at hc2
        refine wp_skip ?_
        refine n_blk ?_
        refine n_then ?_
        refine rg ?_
        refine st (y_add rfl rfl (by omega)) ?_
        refine st (mvI rfl) ?_
        refine rg_end ?_
        exact n_then ⟨k + 1, _, rfl, same_lk rfl (same_h0), ⟨rfl, trivial⟩, ⟨hlp0, by omega, fun q hq => by (by_cases e : q = k; subst e; assumption; exact hall q (by omega))⟩, by first | omega | (dsimp only; omega)⟩
    ·
      try simp only [decide_eq_true_eq, decide_eq_false_iff_not, Bool.not_eq_true', Bool.not_eq_false', Bool.and_eq_true, Bool.or_eq_true, Bool.or_eq_false_iff, Bool.cond_true_right, Bool.cond_false_right, Bool.cond_true_left, Bool.cond_false_left, ne_eq, Decidable.not_not, bne_iff_ne, beq_iff_eq, beq_eq_false_iff_ne, Bool.not_true, Bool.not_false] at hc1
      refine wp_exit ?_
      refine e_then (e_then (e_blk (?_)))
      refine n_then ?_
      refine wp_seq ?_
      refine rg ?_
      refine st (asB rfl) ?_
      refine rg_end ?_
      refine n_then ?_
      refine wp_ret ?_
      refine ret1 (v := (.bool _)) Try.results70 rfl ?_
      exact ⟨vb (by simp; exact list_ext_elG hln (fun q hq => hall q (by omega))), hE⟩

set_option maxRecDepth 100000 in
theorem keep_SameNetwork_ok (M : Net) (A1 A2 : NetA) (l1 h1 l2 h2 : Nat) (w : World) (hM1 : NetIn l1 h1 w M A1) (hM2 : NetIn l2 h2 w M A2) (he : (M.evs.length : Int) ≤ 1000000) (ha : (M.acts.length : Int) ≤ 1000000) : Cal Try.prog 57 [netV M A1, netV M A2] w (fun v w' => v = .bool true ∧ Ext w w') := by
  replace hM1 := hM1.full
  replace hM2 := hM2.full
  have hE : Out 0 0 w w := Out.refl _ _ w
  refine enter Try.func57 rfl Try.ntmps57 rfl ?_
  refine wp_seq ?_
  refine rg ?_
  refine sd (d_boxA rfl ?_)
  intro b2 w1 hbb2 hs3 ho2 hb2
  have hz4 := ho2.size
  replace hM1 := hM1.ext ho2
  replace hM2 := hM2.ext ho2
  replace hE := hE.step ho2 (.inl (Nat.le_refl _))
  refine sd (d_boxA rfl ?_)
  intro b3 w5 hbb3 hs7 ho6 hb3
  have hz8 := ho6.size
  replace hM1 := hM1.ext ho6
  replace hM2 := hM2.ext ho6
  replace hE := hE.step ho6 (.inl (Nat.le_refl _))
  replace hb2 := hb2.ext ho6
  refine st (asB rfl) ?_
  refine rg_end ?_
  refine n_then ?_
  refine wp_seq ?_
  refine rg ?_
  refine st (y_fld fld26_0 rfl) ?_
  refine st (y_lb hb2 na3 rfl rfl) ?_
  refine st (y_fld fld26_0 rfl) ?_
  refine st (y_lb hb3 na3 rfl rfl) ?_
  refine st (y_eql rfl rfl) ?_
  refine st (mvB rfl) ?_
  refine stg rfl rfl (decide_eq_true rfl) (y_fld fld26_1 rfl) ?_
  refine stg rfl rfl (decide_eq_true rfl) (y_lb hb2 na23 rfl rfl) ?_
  refine stg rfl rfl (decide_eq_true rfl) (y_fld fld26_1 rfl) ?_
  refine stg rfl rfl (decide_eq_true rfl) (y_lb hb3 na23 rfl rfl) ?_
  refine scg rfl rfl (decide_eq_true rfl) cl14 (keep_Same_Ev_ok M.evs M.evs _ _ _ _ _ _ _ _ _ hM1.e hM2.e (by omega)) rfl ?_
  rintro v13 w9 ⟨rfl, ho10⟩
  have hz14 := ho10.size
  replace hM1 := hM1.ext ho10
  replace hM2 := hM2.ext ho10
  replace hE := hE.step ho10 (.inl (Nat.le_refl _))
  replace hb2 := hb2.ext ho10
  replace hb3 := hb3.ext ho10
  refine st (y_pickT rfl (decide_eq_true rfl) (v := .bool _) rfl) ?_
  refine st (mvB rfl) ?_
  refine stg rfl rfl (decide_eq_true rfl) (y_fld fld26_2 rfl) ?_
  refine stg rfl rfl (decide_eq_true rfl) (y_lb hb2 na24 rfl rfl) ?_
  refine stg rfl rfl (decide_eq_true rfl) (y_fld fld26_2 rfl) ?_
  refine stg rfl rfl (decide_eq_true rfl) (y_lb hb3 na24 rfl rfl) ?_
  refine scg rfl rfl (decide_eq_true rfl) cl70 (keep_Same_Ac_ok M.acts M.acts _ _ _ _ _ _ _ _ _ hM1.a hM2.a (by omega)) rfl ?_
  rintro v19 w15 ⟨rfl, ho16⟩
  have hz20 := ho16.size
  replace hM1 := hM1.ext ho16
  replace hM2 := hM2.ext ho16
  replace hE := hE.step ho16 (.inl (Nat.le_refl _))
  replace hb2 := hb2.ext ho16
  replace hb3 := hb3.ext ho16
  refine st (y_pickT rfl (decide_eq_true rfl) (v := .bool _) rfl) ?_
  refine st (asB rfl) ?_
  refine rg_end ?_
  refine n_then ?_
  refine wp_ret ?_
  refine ret1 (v := (.bool _)) Try.results57 rfl ?_
  exact ⟨vb (by simp), hE⟩

theorem subM_len (N : Net) (S : List Int) : ((subM N S).evs.length : Int) ≤ 48 ∧ ((subM N S).acts.length : Int) ≤ 512 := by
  by_cases h : subE N S = 0
  · have hk : netOk N = true := by
      apply Classical.byContradiction; intro hn
      unfold subE at h; rw [if_neg hn] at h; omega
    have ha : ascB N.acts.length (-1) S = true := by
      apply Classical.byContradiction; intro hn
      unfold subE at h; rw [if_pos hk, if_neg hn] at h; omega
    have hok := netOk_iff.1 hk
    have h1 := asc_len S (-1) ha (by omega)
    have h2 := hok.ac
    have h3 := hok.ev
    unfold subM; rw [if_pos h]
    exact ⟨h3, by simp [subN]; omega⟩
  · unfold subM; rw [if_neg h]; simp

set_option maxHeartbeats 1000000 in
set_option maxRecDepth 100000 in
theorem law18_checks_ok (N : Net) (A : NetA) (lo hi : Nat) (S : List Int) (as_ : Option Addr) (cs ls hs : Nat) (rows : List Rw) (aw : Option Addr) (cw lw hw_ : Nat) (B : Int) (w : World) (hN : NetIn lo hi w N A) (hS : Ints ls hs w as_ S) (hcs : S.length ≤ cs) (hsn : (S.length : Int) ≤ 9223372036854775807) (hW : WitIn lw hw_ w aw rows) (hwn : (rows.length : Int) ≤ 9223372036854775807)  : Cal Try.prog 30 [netV N A, .agg #[.slice as_ S.length cs, .slice aw rows.length cw], .int .i64 B] w (fun v w' => v = .bool true ∧ Ext w w') := by
  replace hN := hN.full
  replace hS := Ints.full hS
  replace hW : WitIn 0 w.heap.size w aw rows := ⟨Sl.full (fun _ => by simp [encRw]) hW.tb, fun r hr => Ints.full (hW.row r hr)⟩
  obtain ⟨hm1, hm2⟩ := subM_len N S
  have hE : Out 0 0 w w := Out.refl _ _ w
  refine enter Try.func30 rfl Try.ntmps30 rfl ?_
  refine wp_seq ?_
  refine rg ?_
  refine sd (d_boxA rfl ?_)
  intro b3 w1 hbb3 hs3 ho2 hb3
  have hz4 := ho2.size
  replace hN := hN.ext ho2
  replace hS := hS.ext ho2
  replace hW := hW.ext ho2
  replace hE := hE.step ho2 (.inl (Nat.le_refl _))
  refine sd (d_boxA rfl ?_)
  intro b4 w5 hbb4 hs7 ho6 hb4
  have hz8 := ho6.size
  replace hN := hN.ext ho6
  replace hS := hS.ext ho6
  replace hW := hW.ext ho6
  replace hE := hE.step ho6 (.inl (Nat.le_refl _))
  replace hb3 := hb3.ext ho6
  refine st (asB rfl) ?_
  refine rg_end ?_
  refine n_then ?_
  refine wp_seq ?_
  refine rg ?_
  refine st (y_lbN hb3 agg26 rfl) ?_
  refine st (y_lbN hb4 agg46 rfl) ?_
  refine st (mvI rfl) ?_
  refine sc cl32 (con_Check_ok N A _ _ S _ _ _ _ rows _ _ _ _ B _ hN hS hcs hsn hW hwn) rfl ?_
  rintro v13 w9 ⟨rfl, ho10⟩
  have hz14 := ho10.size
  replace hN := hN.ext ho10
  replace hS := hS.ext ho10
  replace hW := hW.ext ho10
  replace hE := hE.step ho10 (.inl (Nat.le_refl _))
  replace hb3 := hb3.ext ho10
  replace hb4 := hb4.ext ho10
  refine st (mvT rfl) ?_
  refine st (y_ext rfl rfl) ?_
  refine st (y_ext rfl rfl) ?_
  refine st (asB rfl) ?_
  refine st (asI rfl) ?_
  refine rg_end ?_
  refine n_then ?_
  refine wp_seq ?_
  refine rg ?_
  refine st (y_lbN hb3 agg26 rfl) ?_
  refine st (y_lbN hb4 agg46 rfl) ?_
  refine st (mvI rfl) ?_
  refine sc cl56 (ref17_Check_ok N A _ _ S _ _ _ _ rows _ _ _ _ B _ hN hS hcs hsn hW hwn) rfl ?_
  rintro v19 w15 ⟨rfl, ho16⟩
  have hz20 := ho16.size
  replace hN := hN.ext ho16
  replace hS := hS.ext ho16
  replace hW := hW.ext ho16
  replace hE := hE.step ho16 (.inl (Nat.le_refl _))
  replace hb3 := hb3.ext ho16
  replace hb4 := hb4.ext ho16
  refine st (mvT rfl) ?_
  refine st (y_ext rfl rfl) ?_
  refine st (y_ext rfl rfl) ?_
  refine st (asB rfl) ?_
  refine st (asI rfl) ?_
  refine rg_end ?_
  refine n_then ?_
  refine wp_seq ?_
  refine rg ?_
  refine st (y_lbN hb3 agg26 rfl) ?_
  refine st (y_fld fld46_0 rfl) ?_
  refine st (y_lb hb4 na22 rfl rfl) ?_
  refine sc cl13 (contradiction_Subset_ok N A _ _ S _ _ _ _ _ hN hS hsn) rfl ?_
  rintro v25 w21 ⟨A2, rfl, hM, ho22⟩
  have hz26 := ho22.size
  replace hN := hN.ext ho22
  replace hS := hS.ext ho22
  replace hW := hW.ext ho22
  replace hE := hE.step ho22 (.inl (Nat.le_refl _))
  replace hb3 := hb3.ext ho22
  replace hb4 := hb4.ext ho22
  refine st (mvT rfl) ?_
  refine st (y_ext rfl rfl) ?_
  refine st (y_ext rfl rfl) ?_
  refine sd (d_allocA zer26 ?_)
  intro b11 w27 hbb11 hs29 ho28 hb11
  have hz30 := ho28.size
  replace hN := hN.ext ho28
  replace hS := hS.ext ho28
  replace hW := hW.ext ho28
  replace hE := hE.step ho28 (.inl (Nat.le_refl _))
  replace hb3 := hb3.ext ho28
  replace hb4 := hb4.ext ho28
  replace hM := hM.ext ho28
  refine sd0 (d_stN hb11 rfl rfl sz26 rfl rfl ?_)
  intro w31 hs33 ho32 hb11'
  clear hb11; have hb11 := hb11'; clear hb11'
  have hz34 := ho32.size
  replace hN := hN.out ho32 (by first | omega | (simp only [blk_some, hi1_some] at *; omega))
  replace hS := hS.out ho32 (by first | omega | (simp only [blk_some, hi1_some] at *; omega))
  replace hW := hW.out ho32 (by first | omega | (simp only [blk_some, hi1_some] at *; omega))
  replace hE := hE.step ho32 (by first | omega | (simp only [blk_some, hi1_some] at *; omega))
  replace hb3 := hb3.out ho32 (by first | omega | (simp only [blk_some, hi1_some] at *; omega))
  replace hb4 := hb4.out ho32 (by first | omega | (simp only [blk_some, hi1_some] at *; omega))
  replace hM := hM.out ho32 (by first | omega | (simp only [blk_some, hi1_some] at *; omega))
  refine st (asI rfl) ?_
  refine rg_end ?_
  refine n_then ?_
  refine wp_seq ?_
  refine rg ?_
  refine st (y_lbN hb3 agg26 rfl) ?_
  refine st (y_fld fld46_0 rfl) ?_
  refine st (y_lb hb4 na22 rfl rfl) ?_
  refine sc cl23 (ref17_Subset_ok N A _ _ S _ _ _ _ _ hN hS hsn) rfl ?_
  rintro v39 w35 ⟨A3, rfl, hM3, ho36⟩
  have hz40 := ho36.size
  replace hN := hN.ext ho36
  replace hS := hS.ext ho36
  replace hW := hW.ext ho36
  replace hE := hE.step ho36 (.inl (Nat.le_refl _))
  replace hb3 := hb3.ext ho36
  replace hb4 := hb4.ext ho36
  replace hM := hM.ext ho36
  replace hb11 := hb11.ext ho36
  refine st (mvT rfl) ?_
  refine st (y_ext rfl rfl) ?_
  refine st (y_ext rfl rfl) ?_
  refine sd (d_allocA zer26 ?_)
  intro b13 w41 hbb13 hs43 ho42 hb13
  have hz44 := ho42.size
  replace hN := hN.ext ho42
  replace hS := hS.ext ho42
  replace hW := hW.ext ho42
  replace hE := hE.step ho42 (.inl (Nat.le_refl _))
  replace hb3 := hb3.ext ho42
  replace hb4 := hb4.ext ho42
  replace hM := hM.ext ho42
  replace hb11 := hb11.ext ho42
  replace hM3 := hM3.ext ho42
  refine sd0 (d_stN hb13 rfl rfl sz26 rfl rfl ?_)
  intro w45 hs47 ho46 hb13'
  clear hb13; have hb13 := hb13'; clear hb13'
  have hz48 := ho46.size
  replace hN := hN.out ho46 (by first | omega | (simp only [blk_some, hi1_some] at *; omega))
  replace hS := hS.out ho46 (by first | omega | (simp only [blk_some, hi1_some] at *; omega))
  replace hW := hW.out ho46 (by first | omega | (simp only [blk_some, hi1_some] at *; omega))
  replace hE := hE.step ho46 (by first | omega | (simp only [blk_some, hi1_some] at *; omega))
  replace hb3 := hb3.out ho46 (by first | omega | (simp only [blk_some, hi1_some] at *; omega))
  replace hb4 := hb4.out ho46 (by first | omega | (simp only [blk_some, hi1_some] at *; omega))
  replace hM := hM.out ho46 (by first | omega | (simp only [blk_some, hi1_some] at *; omega))
  replace hb11 := hb11.out ho46 (by first | omega | (simp only [blk_some, hi1_some] at *; omega))
  replace hM3 := hM3.out ho46 (by first | omega | (simp only [blk_some, hi1_some] at *; omega))
  refine st (asI rfl) ?_
  refine rg_end ?_
  refine n_then ?_
  refine wp_seq ?_
  refine rg ?_
  refine st (mvB rfl) ?_
  refine st (mvB rfl) ?_
  refine st (y_eqlB rfl rfl Try.underlying4) ?_
  refine st (mvB rfl) ?_
  refine stg rfl rfl (beq_self_eq_true (chkB N S (rows.map Rw.l) B)) (mvI rfl) ?_
  refine stg rfl rfl (beq_self_eq_true (chkB N S (rows.map Rw.l) B)) (mvI rfl) ?_
  refine stg rfl rfl (beq_self_eq_true (chkB N S (rows.map Rw.l) B)) (y_eql rfl rfl) ?_
  refine st (y_pickT rfl (beq_self_eq_true (chkB N S (rows.map Rw.l) B)) (v := .bool _) rfl) ?_
  refine st (mvB rfl) ?_
  refine stg rfl rfl (decide_eq_true rfl) (y_lbN hb11 agg26 rfl) ?_
  refine stg rfl rfl (decide_eq_true rfl) (y_lbN hb13 agg26 rfl) ?_
  refine scg rfl rfl (decide_eq_true rfl) cl57 (keep_SameNetwork_ok (subM N S) A2 A3 _ _ _ _ _ hM hM3 (by omega) (by omega)) rfl ?_
  rintro v53 w49 ⟨rfl, ho50⟩
  have hz54 := ho50.size
  replace hN := hN.ext ho50
  replace hS := hS.ext ho50
  replace hW := hW.ext ho50
  replace hE := hE.step ho50 (.inl (Nat.le_refl _))
  replace hb3 := hb3.ext ho50
  replace hb4 := hb4.ext ho50
  replace hM := hM.ext ho50
  replace hb11 := hb11.ext ho50
  replace hM3 := hM3.ext ho50
  replace hb13 := hb13.ext ho50
  refine st (y_pickT rfl (decide_eq_true rfl) (v := .bool _) rfl) ?_
  refine st (mvB rfl) ?_
  refine stg rfl rfl rfl (mvI rfl) ?_
  refine stg rfl rfl rfl (mvI rfl) ?_
  refine stg rfl rfl rfl (y_eql rfl rfl) ?_
  refine st (y_pickT rfl rfl (v := .bool _) rfl) ?_
  refine st (asB rfl) ?_
  refine rg_end ?_
  refine n_then ?_
  refine wp_ret ?_
  refine ret1 (v := (.bool _)) Try.results30 rfl ?_
  exact ⟨vb (by simp), hE⟩

theorem ex_facts : cfE smN 1000 = 0 ∧ decide (cfU smN 1000 > 0) = true ∧ cfS smN 1000 = [0, 1] ∧ (cfW smN 1000).length = 2 ∧ el (cfW smN 1000) 0 = [0, 5] ∧ chkB smN (cfS smN 1000) (cfW smN 1000) 1000 = true ∧ chkE smN (cfS smN 1000) (cfW smN 1000) 1000 = 0 := by
  refine ⟨?_, ?_, ?_, ?_, ?_, ?_, ?_⟩ <;> kernel_rfl

set_option maxHeartbeats 1000000 in
set_option maxRecDepth 100000 in
theorem law18_ContradictionExamples_ok (w : World) : Cal Try.prog 9 [] w (fun v w' => v = .bool true ∧ Ext w w') := by
  obtain ⟨x1, x2, x3, x4, x5, x6, x7⟩ := ex_facts
  have hE : Out 0 0 w w := Out.refl _ _ w
  refine enter Try.func9 rfl Try.ntmps9 rfl ?_
  refine wp_seq ?_
  refine rg ?_
  refine st (asB rfl) ?_
  refine rg_end ?_
  refine n_then ?_
  refine wp_seq ?_
  refine rg ?_
  refine sc cl31 (law18_small_ok _) rfl ?_
  rintro v5 w1 ⟨A0, rfl, hN0, ho2⟩
  have hz6 := ho2.size
  replace hE := hE.step ho2 (.inl (Nat.le_refl _))
  refine sc cl21 (con_Find_ok smN A0 _ _ 1000 _ hN0) rfl ?_
  rintro v11 w7 ⟨aq, cq, aw, cw, rows, rfl, hcq, hQ, hW, hrw, ho8⟩
  rw [← hrw] at x4 x5 x6 x7
  have hrl : rows.length = 2 := by simpa using x4
  have hrow := hW.row (el rows 0) (el_mem (by omega) (by omega))
  have hwe : (el rows 0).l = [0, 5] := by rw [← x5]; exact (elMap (by omega) (by omega)).symm
  have hsl : (cfS smN 1000).length = 2 := by rw [x3]; rfl
  have hz12 := ho8.size
  replace hE := hE.step ho8 (.inl (Nat.le_refl _))
  replace hN0 := hN0.ext ho8
  refine st (mvT rfl) ?_
  refine st (y_ext rfl rfl) ?_
  refine st (y_ext rfl rfl) ?_
  refine st (y_ext rfl rfl) ?_
  refine sd (d_allocA zer46 ?_)
  intro b1 w13 hbb1 hs15 ho14 hb1
  have hz16 := ho14.size
  replace hE := hE.step ho14 (.inl (Nat.le_refl _))
  replace hN0 := hN0.ext ho14
  replace hQ := hQ.ext ho14
  replace hW := hW.ext ho14
  replace hrow := hrow.ext ho14
  refine sd0 (d_stN hb1 rfl rfl sz46 rfl rfl ?_)
  intro w17 hs19 ho18 hb1'
  clear hb1; have hb1 := hb1'; clear hb1'
  have hz20 := ho18.size
  replace hE := hE.step ho18 (by first | omega | (simp only [blk_some, hi1_some] at *; omega))
  replace hN0 := hN0.out ho18 (by first | omega | (simp only [blk_some, hi1_some] at *; omega))
  replace hQ := hQ.out ho18 (by first | omega | (simp only [blk_some, hi1_some] at *; omega))
  replace hW := hW.out ho18 (by first | omega | (simp only [blk_some, hi1_some] at *; omega))
  replace hrow := hrow.out ho18 (by first | omega | (simp only [blk_some, hi1_some] at *; omega))
  refine st (asI rfl) ?_
  refine st (asI rfl) ?_
  refine rg_end ?_
  refine n_then ?_
  refine wp_seq ?_
  refine rgD 7 (fun w_ => Ext w17 w_) (fun i => Nat.beq i 0 || Nat.beq i 2) mixed (by kernel_rfl) ?_
  intro w21 ho22 hs23
  refine ⟨ho22, ?_⟩
  have hx24 := ho22
  refine tc rfl cl31 (law18_small_ok _) rfl ?_
  rintro v29 w25 ⟨A1, rfl, hN1, ho26⟩
  have hx30 := hx24.step ho26 (.inl (Nat.le_refl _))
  have hz31 := ho26.size
  refine ⟨hx30, ?_⟩
  refine tn rfl (fun _ hG => y_lbN (hb1.ext hG) agg46 rfl) ?_
  refine tc rfl cl32 (con_Check_ok smN A1 _ _ (cfS smN 1000) _ _ _ _ rows _ _ _ _ 1000 _ hN1 (hQ.ext hx30) hcq (by omega) (hW.ext hx30) (by omega)) rfl ?_
  rintro v36 w32 ⟨rfl, ho33⟩
  rw [x6, x7]
  have hx37 := hx30.step ho33 (.inl (Nat.le_refl _))
  have hz38 := ho33.size
  replace hN1 := hN1.ext ho33
  refine ⟨hx37, ?_⟩
  refine tn rfl (fun _ hG => mvT rfl) ?_
  refine tn rfl (fun _ hG => y_ext rfl rfl) ?_
  refine tn rfl (fun _ hG => y_ext rfl rfl) ?_
  refine tn rfl (fun _ hG => asB rfl) ?_
  refine t_end ?_
  have hz39 := hx37.size
  replace hE := hE.step hx37 (.inl (Nat.le_refl _))
  replace hN0 := hN0.ext hx37
  replace hQ := hQ.ext hx37
  replace hW := hW.ext hx37
  replace hrow := hrow.ext hx37
  replace hb1 := hb1.ext hx37
  refine st (asI rfl) ?_
  refine rg_end ?_
  refine n_then ?_
  refine wp_seq ?_
  refine rg ?_
  refine st (mvI rfl) ?_
  refine st (y_eql rfl rfl) ?_
  refine st (mvB rfl) ?_
  refine stg rfl rfl (decide_eq_true x1) (mvI rfl) ?_
  refine stg rfl rfl (decide_eq_true x1) (y_gtr rfl rfl) ?_
  refine st (y_pickT rfl (decide_eq_true x1) (v := .bool _) rfl) ?_
  refine st (mvB rfl) ?_
  refine stg rfl rfl x2 (y_fld fld46_0 rfl) ?_
  refine stg rfl rfl x2 (y_lb hb1 na22 rfl rfl) ?_
  refine sdg rfl rfl x2 (d_bs (bsl22_2 _ _ _) rfl ?_)
  intro c1 w40 hbc1 hs42 ho41 hc1
  have hc1 : Sl Wk.encI 1 c1 (c1 + 1) w40 (some ⟨c1, 0, none⟩) [(0 : Int), 1] := Blk.sl (l := [(0 : Int), 1]) hc1 (fun _ => rfl) (Nat.le_refl _) (Nat.lt_succ_self _)
  have hz43 := ho41.size
  replace hE := hE.step ho41 (.inl (Nat.le_refl _))
  replace hN0 := hN0.ext ho41
  replace hQ := hQ.ext ho41
  replace hW := hW.ext ho41
  replace hrow := hrow.ext ho41
  replace hb1 := hb1.ext ho41
  replace hN1 := hN1.ext ho41
  refine scg rfl rfl x2 cl33 (keep_Same_int_ok (cfS smN 1000) [0, 1] _ _ _ _ _ _ _ _ _ hQ hc1 (by omega)) rfl ?_
  rintro v48 w44 ⟨rfl, ho45⟩
  have hz49 := ho45.size
  replace hE := hE.step ho45 (.inl (Nat.le_refl _))
  replace hN0 := hN0.ext ho45
  replace hQ := hQ.ext ho45
  replace hW := hW.ext ho45
  replace hrow := hrow.ext ho45
  replace hb1 := hb1.ext ho45
  replace hN1 := hN1.ext ho45
  replace hc1 := hc1.ext ho45
  refine st (y_pickT rfl x2 (v := .bool _) rfl) ?_
  refine st (mvB rfl) ?_
  refine stg rfl rfl (decide_eq_true x3) (y_fld fld46_1 rfl) ?_
  refine stg rfl rfl (decide_eq_true x3) (y_lb hb1 na44 rfl rfl) ?_
  refine stg rfl rfl (decide_eq_true x3) (y_len Try.underlying44 rfl) ?_
  refine stg rfl rfl (decide_eq_true x3) (y_eql rfl rfl) ?_
  refine st (y_pickT rfl (decide_eq_true x3) (v := .bool _) rfl) ?_
  refine st (mvB rfl) ?_
  refine stg rfl rfl (decide_eq_true (congrArg Int.ofNat hrl)) (y_fld fld46_1 rfl) ?_
  refine stg rfl rfl (decide_eq_true (congrArg Int.ofNat hrl)) (y_lb hb1 na44 rfl rfl) ?_
  refine stg rfl rfl (decide_eq_true (congrArg Int.ofNat hrl)) (y_ix hW.tb sl44 rfl (rfl) rfl (by omega) (by omega)) ?_
  refine stg rfl rfl (decide_eq_true (congrArg Int.ofNat hrl)) (y_le hW.tb na22 rfl (by omega) (by omega) rfl) ?_
  refine sdg rfl rfl (decide_eq_true (congrArg Int.ofNat hrl)) (d_bs (bsl22_2 _ _ _) rfl ?_)
  intro c2 w50 hbc2 hs52 ho51 hc2
  have hc2 : Sl Wk.encI 1 c2 (c2 + 1) w50 (some ⟨c2, 0, none⟩) [(0 : Int), 5] := Blk.sl (l := [(0 : Int), 5]) hc2 (fun _ => rfl) (Nat.le_refl _) (Nat.lt_succ_self _)
  have hz53 := ho51.size
  replace hE := hE.step ho51 (.inl (Nat.le_refl _))
  replace hN0 := hN0.ext ho51
  replace hQ := hQ.ext ho51
  replace hW := hW.ext ho51
  replace hrow := hrow.ext ho51
  replace hb1 := hb1.ext ho51
  replace hN1 := hN1.ext ho51
  replace hc1 := hc1.ext ho51
  refine scg rfl rfl (decide_eq_true (congrArg Int.ofNat hrl)) cl33 (keep_Same_int_ok (el rows 0).l [0, 5] _ _ _ _ _ _ _ _ _ hrow hc2 (by rw [hwe]; decide)) rfl ?_
  rintro v58 w54 ⟨rfl, ho55⟩
  have hz59 := ho55.size
  replace hE := hE.step ho55 (.inl (Nat.le_refl _))
  replace hN0 := hN0.ext ho55
  replace hQ := hQ.ext ho55
  replace hW := hW.ext ho55
  replace hrow := hrow.ext ho55
  replace hb1 := hb1.ext ho55
  replace hN1 := hN1.ext ho55
  replace hc1 := hc1.ext ho55
  replace hc2 := hc2.ext ho55
  refine st (y_pickT rfl (decide_eq_true (congrArg Int.ofNat hrl)) (v := .bool _) rfl) ?_
  refine st (mvB rfl) ?_
  refine stg rfl rfl (decide_eq_true hwe) (mvB rfl) ?_
  refine st (y_pickT rfl (decide_eq_true hwe) (v := .bool _) rfl) ?_
  refine st (mvB rfl) ?_
  refine stg rfl rfl rfl (mvI rfl) ?_
  refine stg rfl rfl rfl (y_eql rfl rfl) ?_
  refine st (y_pickT rfl rfl (v := .bool _) rfl) ?_
  refine st (asB rfl) ?_
  refine rg_end ?_
  refine n_then ?_
  refine wp_ret ?_
  refine ret1 (v := (.bool _)) Try.results9 rfl ?_
  exact ⟨rfl, hE⟩

open Go.ChangeShapes Go.WideShapes Go.Deep in
theorem ref_of {H : Type} {enc : TypeId × Value → H} {P : Program} {w : World} {base b0 : Nat} {spare : Nat → Bool} {held : Bool} {r : Reach} {t er ei : TypeId} {f0 f1 : Field} {v : Value} {d : DataW H} {p : List MemPlace}
    (hs : P.underlying t = some (.struct #[f0, f1])) (hone : oneCellFields P #[f0, f1] = true) (hC : P.cellsOf t = 2) (h0 : P.underlying f0.type = some (.slice ei)) (h1 : P.underlying f1.type = some (.slice er)) (h2 : P.underlying er = some (.slice ei)) (h3 : P.underlying ei = some (.int .i64)) (c1 : P.cellsOf er = 1) (c2 : P.cellsOf ei = 1)
    (hv : Value.okWide P w r b0 t v) (h : DataW.Trod enc P w base spare held t v d p) :
    ∃ (S : List Int) (as_ : Option Addr) (cs : Nat) (rows : List Rw) (aw : Option Addr) (cw : Nat), v = .agg #[.slice as_ S.length cs, .slice aw rows.length cw] ∧ Ints 0 w.heap.size w as_ S ∧ S.length ≤ cs ∧ (S.length : Int) ≤ 9223372036854775807 ∧ WitIn 0 w.heap.size w aw rows ∧ (rows.length : Int) ≤ 9223372036854775807 := by
  obtain ⟨v0, v1, y0, y1, n, rfl, _, _, k0, k1⟩ := Joins.open_agg2 hs hone hC hv h
  have hint : ∀ n cs x, DataW.trod enc P w base spare held n ei cs = some x → ∃ a : Int, cs = Wk.encI a ∧ True := fun n cs x h => by
    obtain ⟨z, hz, _⟩ := DataW.trod_int h3 h
    exact ⟨z, hz, trivial⟩
  obtain ⟨as_, cs, S, e0, n0, s0, _, q0⟩ := sl_of (en := Wk.encI) h0 c2 (by decide) (fun _ => rfl) hint k0
  obtain ⟨aw, cw, rows, e1, n1, s1, r1, q1⟩ := sl_of (en := encRw) (Q := fun r => Ints 0 w.heap.size w r.a r.l) h1 c1 (by decide) (fun _ => rfl) (fun n cs x h => by
    obtain ⟨ad, cap, l, e, _, s, _⟩ := sl_of (en := Wk.encI) h2 c2 (by decide) (fun _ => rfl) hint h
    exact ⟨⟨ad, cap, l⟩, e, s⟩) k1
  simp at e0 e1
  subst e0 e1
  exact ⟨S, as_, cs, rows, aw, cw, rfl, s0, q0, n0, ⟨s1, r1⟩, n1⟩
end Go.Proofs.Ytclligkngjhihaa
