/-
  Walks of the functions, printed by a program out of the code and the loops' relations.
-/
import Derived.Test.YtgekfafangcggaaWkD
import Derived.Test.YtgekfafangcggaaProg
import Derived.KernelRfl
import Derived.Test.YtgekfafangcggaaS4
namespace Go.Proofs.Ytgekfafangcggaa
open Go.Wk Go.RowKit
set_option linter.unusedVariables false
set_option linter.unusedSimpArgs false
theorem cl42 : Callable Try.prog 42 := ⟨Try.call42⟩
theorem cl44 : Callable Try.prog 44 := ⟨Try.call44⟩
theorem cl71 : Callable Try.prog 71 := ⟨Try.call71⟩

theorem acs_full {sz lo hi : Nat} {w : World} {ad : Option Addr} {m : List Bool} (h : Sl encB sz lo hi w ad m) : Sl encB sz 0 w.heap.size w ad m := Sl.full (fun _ => by simp [encB]) h

set_option maxRecDepth 100000 in
theorem simplex_crosses_ok (N : Net) (a : Ac) (m : List Bool) (am : Option Addr) (cm lm hm_ : Nat) (w : World) (hM : Sl encB 1 lm hm_ w am m) (hml : m.length = N.evs.length) (ha : AcOk N a) : Cal Try.prog 42 [(.agg (encAc a).toArray), .slice am m.length cm] w (fun v w' => v = .bool (xsB m a) ∧ Ext w w') := by
  replace hM := acs_full hM
  have hE : Out 0 0 w w := Out.refl _ _ w
  refine enter Try.func42 rfl Try.ntmps42 rfl ?_
  refine wp_seq ?_
  refine rg ?_
  refine sd (d_boxA rfl ?_)
  intro b2 w1 hbb2 hs3 ho2 hb2
  have hz4 := ho2.size
  replace hM := hM.ext ho2
  replace hE := hE.step ho2 (.inl (Nat.le_refl _))
  refine st (asB rfl) ?_
  refine rg_end ?_
  refine n_then ?_
  refine wp_seq ?_
  refine rgD 10 (fun w_ => Ext w1 w_) (fun i => false) mixed (by kernel_rfl) ?_
  intro w5 ho6 hs7
  refine ⟨ho6, ?_⟩
  have hx8 := ho6
  refine tn rfl (fun _ hG => mvS rfl) ?_
  refine tn rfl (fun _ hG => y_fld fld36_1 rfl) ?_
  refine tn rfl (fun _ hG => y_lb (hb2.ext hG) na3 rfl rfl) ?_
  refine tn rfl (fun _ hG => y_ix (hM.ext hG) sl31 rfl (rfl) rfl (ha.f0) (by have := ha.f1; omega)) ?_
  refine tn rfl (fun _ hG => y_le (hM.ext hG) na4 rfl (ha.f0) (by have := ha.f1; omega) rfl) ?_
  refine tn rfl (fun _ hG => mvS rfl) ?_
  refine tn rfl (fun _ hG => y_fld fld36_2 rfl) ?_
  refine tn rfl (fun _ hG => y_lb (hb2.ext hG) na3 rfl rfl) ?_
  refine tn rfl (fun _ hG => y_ix (hM.ext hG) sl31 rfl (rfl) rfl (ha.t0) (by have := ha.t1; omega)) ?_
  refine tn rfl (fun _ hG => y_le (hM.ext hG) na4 rfl (ha.t0) (by have := ha.t1; omega) rfl) ?_
  refine t_end ?_
  have hz9 := hx8.size
  replace hM := hM.ext hx8
  replace hE := hE.step hx8 (.inl (Nat.le_refl _))
  replace hb2 := hb2.ext hx8
  refine st (y_neqB rfl rfl Try.underlying4) ?_
  refine st (asB rfl) ?_
  refine rg_end ?_
  refine n_then ?_
  refine wp_ret ?_
  refine ret1 (v := (.bool _)) Try.results42 rfl ?_
  exact ⟨rfl, hE⟩

set_option maxRecDepth 100000 in
theorem simplex_slack_ok (N : Net) (A : NetA) (lo hi : Nat) (t : List Int) (at_ : Option Addr) (ct : Nat) (lt ht : Nat) (a : Ac) (w : World) (hN : NetIn lo hi w N A) (hT : Ints lt ht w at_ t) (hg : GoodT N t) (ha : AcOk N a) : Cal Try.prog 71 [netV N A, .slice at_ t.length ct, (.agg (encAc a).toArray)] w (fun v w' => v = .int .i64 (slk N t a) ∧ Ext w w') := by
  replace hN := hN.full
  replace hT := Ints.full hT
  have hl := hg.len
  have b1 := hg.rng _ (el_mem (l := t) ha.t0 (by rw [hg.len]; exact ha.t1))
  have b2 := hg.rng _ (el_mem (l := t) ha.f0 (by rw [hg.len]; exact ha.f1))
  have hp2 := hg.ok.p2
  have hp7 := hg.ok.p7
  have m0 := ha.m0
  have m1 := ha.m1
  have m2 := ha.m2
  have hE : Out 0 0 w w := Out.refl _ _ w
  refine enter Try.func71 rfl Try.ntmps71 rfl ?_
  refine wp_seq ?_
  refine rg ?_
  refine sd (d_boxA rfl ?_)
  intro b3 w1 hbb3 hs3 ho2 hb3
  have hz4 := ho2.size
  replace hN := hN.ext ho2
  replace hT := hT.ext ho2
  replace hE := hE.step ho2 (.inl (Nat.le_refl _))
  refine sd (d_boxA rfl ?_)
  intro b5 w5 hbb5 hs7 ho6 hb5
  have hz8 := ho6.size
  replace hN := hN.ext ho6
  replace hT := hT.ext ho6
  replace hE := hE.step ho6 (.inl (Nat.le_refl _))
  replace hb3 := hb3.ext ho6
  refine st (asI rfl) ?_
  refine rg_end ?_
  refine n_then ?_
  refine wp_seq ?_
  refine rgD 16 (fun w_ => Ext w5 w_) (fun i => false) mixed (by kernel_rfl) ?_
  intro w9 ho10 hs11
  refine ⟨ho10, ?_⟩
  have hx12 := ho10
  refine tn rfl (fun _ hG => mvS rfl) ?_
  refine tn rfl (fun _ hG => y_fld fld36_2 rfl) ?_
  refine tn rfl (fun _ hG => y_lb (hb5.ext hG) na3 rfl rfl) ?_
  refine tn rfl (fun _ hG => y_ix (hT.ext hG) sl22 rfl (rfl) rfl (ha.t0) (by have := ha.t1; omega)) ?_
  refine tn rfl (fun _ hG => y_le (hT.ext hG) na3 rfl (ha.t0) (by have := ha.t1; omega) rfl) ?_
  refine tn rfl (fun _ hG => mvS rfl) ?_
  refine tn rfl (fun _ hG => y_fld fld36_1 rfl) ?_
  refine tn rfl (fun _ hG => y_lb (hb5.ext hG) na3 rfl rfl) ?_
  refine tn rfl (fun _ hG => y_ix (hT.ext hG) sl22 rfl (rfl) rfl (ha.f0) (by have := ha.f1; omega)) ?_
  refine tn rfl (fun _ hG => y_le (hT.ext hG) na3 rfl (ha.f0) (by have := ha.f1; omega) rfl) ?_
  refine tn rfl (fun _ hG => y_sub rfl rfl (by omega)) ?_
  refine tn rfl (fun _ hG => y_fld fld36_3 rfl) ?_
  refine tn rfl (fun _ hG => y_lb (hb5.ext hG) na3 rfl rfl) ?_
  refine tn rfl (fun _ hG => y_sub rfl rfl (by omega)) ?_
  refine tn rfl (fun _ hG => y_fld fld26_0 rfl) ?_
  refine tn rfl (fun _ hG => y_lb (hb3.ext hG) na3 rfl rfl) ?_
  refine t_end ?_
  have hz13 := hx12.size
  replace hN := hN.ext hx12
  replace hT := hT.ext hx12
  replace hE := hE.step hx12 (.inl (Nat.le_refl _))
  replace hb3 := hb3.ext hx12
  replace hb5 := hb5.ext hx12
  refine sc cl61 (arith_Mod_ok _ _ _ (by omega) (by omega) (by omega)) rfl ?_
  rintro v18 w14 ⟨rfl, ho15⟩
  have hz19 := ho15.size
  replace hN := hN.ext ho15
  replace hT := hT.ext ho15
  replace hE := hE.step ho15 (.inl (Nat.le_refl _))
  replace hb3 := hb3.ext ho15
  replace hb5 := hb5.ext ho15
  refine st (asI rfl) ?_
  refine rg_end ?_
  refine n_then ?_
  refine wp_ret ?_
  refine ret1 (v := (.int .i64 _)) Try.results71 rfl ?_
  exact ⟨rfl, hE⟩

set_option maxRecDepth 100000 in
theorem simplex_shift_ok (N : Net) (A : NetA) (lo hi : Nat) (t : List Int) (at_ : Option Addr) (ct : Nat) (lt ht : Nat) (a : Ac) (m : List Bool) (am : Option Addr) (cm lm hm_ : Nat) (w : World) (hN : NetIn lo hi w N A) (hT : Ints lt ht w at_ t) (hM : Sl encB 1 lm hm_ w am m) (hml : m.length = N.evs.length) (hg : GoodT N t) (ha : AcOk N a) : Cal Try.prog 60 [netV N A, .slice at_ t.length ct, (.agg (encAc a).toArray), .slice am m.length cm] w (fun v w' => v = .int .i64 (if el m a.fr = true then slk N t a else -slk N t a) ∧ Ext w w') := by
  replace hN := hN.full
  replace hT := Ints.full hT
  replace hM := acs_full hM
  have hsr := slk_rng (N := N) (t := t) (a := a) hg.ok.p2
  have hp7 := hg.ok.p7
  have hE : Out 0 0 w w := Out.refl _ _ w
  refine enter Try.func60 rfl Try.ntmps60 rfl ?_
  refine wp_seq ?_
  refine rg ?_
  refine sd (d_boxA rfl ?_)
  intro b4 w1 hbb4 hs3 ho2 hb4
  have hz4 := ho2.size
  replace hN := hN.ext ho2
  replace hT := hT.ext ho2
  replace hM := hM.ext ho2
  replace hE := hE.step ho2 (.inl (Nat.le_refl _))
  refine sd (d_boxA rfl ?_)
  intro b6 w5 hbb6 hs7 ho6 hb6
  have hz8 := ho6.size
  replace hN := hN.ext ho6
  replace hT := hT.ext ho6
  replace hM := hM.ext ho6
  replace hE := hE.step ho6 (.inl (Nat.le_refl _))
  replace hb4 := hb4.ext ho6
  refine st (asI rfl) ?_
  refine rg_end ?_
  refine n_then ?_
  refine wp_seq ?_
  refine wp_seq ?_
  refine rg ?_
  refine st (mvS rfl) ?_
  refine st (y_fld fld36_1 rfl) ?_
  refine st (y_lb hb6 na3 rfl rfl) ?_
  refine st (y_ix hM sl31 rfl (rfl) rfl (ha.f0) (by have := ha.f1; omega)) ?_
  refine st (y_le hM na4 rfl (ha.f0) (by have := ha.f1; omega) rfl) ?_
  refine rg_end ?_
  refine n_then ?_
  refine cnd rfl (fun hc0 => ?_) (fun hc0 => ?_)
  ·
    try simp only [decide_eq_true_eq, decide_eq_false_iff_not, Bool.not_eq_true', Bool.not_eq_false', Bool.and_eq_true, Bool.or_eq_true, Bool.or_eq_false_iff, Bool.cond_true_right, Bool.cond_false_right, Bool.cond_true_left, Bool.cond_false_left, ne_eq, Decidable.not_not, bne_iff_ne, beq_iff_eq, beq_eq_false_iff_ne, Bool.not_true, Bool.not_false] at hc0
    refine wp_seq ?_
    refine rg ?_
    refine st (y_lbN hb4 agg26 rfl) ?_
    refine st (mvS rfl) ?_
    refine st (y_lbN hb6 agg36 rfl) ?_
    refine sc cl71 (simplex_slack_ok N A _ _ t _ _ _ _ a _ hN hT hg ha) rfl ?_
    rintro v13 w9 ⟨rfl, ho10⟩
    have hz14 := ho10.size
    replace hN := hN.ext ho10
    replace hT := hT.ext ho10
    replace hM := hM.ext ho10
    replace hE := hE.step ho10 (.inl (Nat.le_refl _))
    replace hb4 := hb4.ext ho10
    replace hb6 := hb6.ext ho10
    refine st (asI rfl) ?_
    refine rg_end ?_
    refine n_then ?_
    refine wp_ret ?_
    refine r_then (ret1 (v := (.int .i64 _)) Try.results60 rfl ?_)
    exact ⟨by rw [if_pos hc0], hE⟩
  ·
    try simp only [decide_eq_true_eq, decide_eq_false_iff_not, Bool.not_eq_true', Bool.not_eq_false', Bool.and_eq_true, Bool.or_eq_true, Bool.or_eq_false_iff, Bool.cond_true_right, Bool.cond_false_right, Bool.cond_true_left, Bool.cond_false_left, ne_eq, Decidable.not_not, bne_iff_ne, beq_iff_eq, beq_eq_false_iff_ne, Bool.not_true, Bool.not_false] at hc0
    refine wp_skip ?_
    refine n_then ?_
    refine wp_seq ?_
    refine rg ?_
    refine st (y_lbN hb4 agg26 rfl) ?_
    refine st (mvS rfl) ?_
    refine st (y_lbN hb6 agg36 rfl) ?_
    refine sc cl71 (simplex_slack_ok N A _ _ t _ _ _ _ a _ hN hT hg ha) rfl ?_
    rintro v19 w15 ⟨rfl, ho16⟩
    have hz20 := ho16.size
    replace hN := hN.ext ho16
    replace hT := hT.ext ho16
    replace hM := hM.ext ho16
    replace hE := hE.step ho16 (.inl (Nat.le_refl _))
    replace hb4 := hb4.ext ho16
    replace hb6 := hb6.ext ho16
    refine st (y_neg rfl (by omega)) ?_
    refine st (asI rfl) ?_
    refine rg_end ?_
    refine n_then ?_
    refine wp_ret ?_
    refine ret1 (v := (.int .i64 _)) Try.results60 rfl ?_
    exact ⟨by rw [if_neg (by rw [hc0]; decide)], hE⟩

set_option maxRecDepth 100000 in
theorem simplex_check_ok (N : Net) (A : NetA) (lo hi : Nat) (tree : List Int) (ar : Option Addr) (cr lr hr_ : Nat) (t : List Int) (at_ : Option Addr) (ct : Nat) (lt ht : Nat) (w : World) (hN : NetIn lo hi w N A) (hTr : Ints lr hr_ w ar tree) (htn : (tree.length : Int) ≤ 9223372036854775807) (hT : Ints lt ht w at_ t)  : Cal Try.prog 41 [netV N A, .slice ar tree.length cr, .slice at_ t.length ct] w (fun v w' => ∃ e, v = .int .i64 e ∧ ((e = 0 ∧ FoOk N tree ∧ feas N t = true) ∨ (e = 1 ∧ ¬ (FoOk N tree ∧ feas N t = true))) ∧ Ext w w') := by
  replace hN := hN.full
  replace hTr := Ints.full hTr
  replace hT := Ints.full hT
  have hE : Out 0 0 w w := Out.refl _ _ w
  refine enter Try.func41 rfl Try.ntmps41 rfl ?_
  refine wp_seq ?_
  refine rg ?_
  refine sd (d_boxA rfl ?_)
  intro b3 w1 hbb3 hs3 ho2 hb3
  have hz4 := ho2.size
  replace hN := hN.ext ho2
  replace hTr := hTr.ext ho2
  replace hT := hT.ext ho2
  replace hE := hE.step ho2 (.inl (Nat.le_refl _))
  refine st (asI rfl) ?_
  refine rg_end ?_
  refine n_then ?_
  refine wp_seq ?_
  refine wp_seq ?_
  refine rg ?_
  refine st (y_lbN hb3 agg26 rfl) ?_
  refine st (mvS rfl) ?_
  refine sc cl38 (cycles_Forest_ok N A _ _ tree _ _ _ _ _ hN hTr htn) rfl ?_
  rintro v9 w5 ⟨b, rfl, hb, ho6⟩
  have hz10 := ho6.size
  replace hN := hN.ext ho6
  replace hTr := hTr.ext ho6
  replace hT := hT.ext ho6
  replace hE := hE.step ho6 (.inl (Nat.le_refl _))
  replace hb3 := hb3.ext ho6
  refine st (y_not rfl) ?_
  refine st (mvB rfl) ?_
  refine gspL 11 rfl (fun hg11 => ?_) (fun hg11 => ?_)
  ·
    have hg11n := hg11; try simp only [decide_eq_true_eq, decide_eq_false_iff_not, Bool.not_eq_true', Bool.not_eq_false', Bool.and_eq_true, Bool.or_eq_true, Bool.or_eq_false_iff, Bool.cond_true_right, Bool.cond_false_right, Bool.cond_true_left, Bool.cond_false_left, ne_eq, Decidable.not_not, bne_iff_ne, beq_iff_eq, beq_eq_false_iff_ne, Bool.not_true, Bool.not_false] at hg11n
    refine sts rfl rfl hg11 ?_
    refine sts rfl rfl hg11 ?_
    refine sts rfl rfl hg11 ?_
    refine sts rfl rfl hg11 ?_
    refine st (y_pickT rfl hg11 (v := .bool _) rfl) ?_
    refine rg_end ?_
    refine n_then ?_
    refine cnd rfl (fun hc0 => ?_) (fun hc0 => absurd hc0 (by decide))
    have hno : ¬ (FoOk N tree ∧ feas N t = true) := fun h => by
      have h1 := hb.2 h.1
      have h2 := h.2
      first
      | (rw [show b = false by assumption] at h1; cases h1)
      | (rw [show feas N t = false by assumption] at h2; cases h2)
    refine wp_seq ?_
    refine rg ?_
    refine st (asI rfl) ?_
    refine rg_end ?_
    refine n_then ?_
    refine wp_ret ?_
    refine r_then (ret1 (v := (.int .i64 _)) Try.results41 rfl ?_)
    exact ⟨1, rfl, .inr ⟨rfl, hno⟩, hE⟩
  ·
    have hg11n := hg11; try simp only [decide_eq_true_eq, decide_eq_false_iff_not, Bool.not_eq_true', Bool.not_eq_false', Bool.and_eq_true, Bool.or_eq_true, Bool.or_eq_false_iff, Bool.cond_true_right, Bool.cond_false_right, Bool.cond_true_left, Bool.cond_false_left, ne_eq, Decidable.not_not, bne_iff_ne, beq_iff_eq, beq_eq_false_iff_ne, Bool.not_true, Bool.not_false] at hg11n
    refine stg rfl rfl hg11 (y_lbN hb3 agg26 rfl) ?_
    refine stg rfl rfl hg11 (mvS rfl) ?_
    refine scg rfl rfl hg11 cl44 (network_Feasible_ok N A _ _ t _ _ _ _ _ hN hT) rfl ?_
    rintro v16 w12 ⟨rfl, ho13⟩
    have hz17 := ho13.size
    replace hN := hN.ext ho13
    replace hTr := hTr.ext ho13
    replace hT := hT.ext ho13
    replace hE := hE.step ho13 (.inl (Nat.le_refl _))
    replace hb3 := hb3.ext ho13
    refine stg rfl rfl hg11 (y_not rfl) ?_
    refine st (y_pickF rfl hg11 (v := .bool _) rfl) ?_
    refine rg_end ?_
    refine n_then ?_
    refine cnd rfl (fun hc0 => ?_) (fun hc0 => ?_)
    ·
      try simp only [decide_eq_true_eq, decide_eq_false_iff_not, Bool.not_eq_true', Bool.not_eq_false', Bool.and_eq_true, Bool.or_eq_true, Bool.or_eq_false_iff, Bool.cond_true_right, Bool.cond_false_right, Bool.cond_true_left, Bool.cond_false_left, ne_eq, Decidable.not_not, bne_iff_ne, beq_iff_eq, beq_eq_false_iff_ne, Bool.not_true, Bool.not_false] at hc0
      have hno : ¬ (FoOk N tree ∧ feas N t = true) := fun h => by
        have h1 := hb.2 h.1
        have h2 := h.2
        first
        | (rw [show b = false by assumption] at h1; cases h1)
        | (rw [show feas N t = false by assumption] at h2; cases h2)
      refine wp_seq ?_
      refine rg ?_
      refine st (asI rfl) ?_
      refine rg_end ?_
      refine n_then ?_
      refine wp_ret ?_
      refine r_then (ret1 (v := (.int .i64 _)) Try.results41 rfl ?_)
      exact ⟨1, rfl, .inr ⟨rfl, hno⟩, hE⟩
    ·
      try simp only [decide_eq_true_eq, decide_eq_false_iff_not, Bool.not_eq_true', Bool.not_eq_false', Bool.and_eq_true, Bool.or_eq_true, Bool.or_eq_false_iff, Bool.cond_true_right, Bool.cond_false_right, Bool.cond_true_left, Bool.cond_false_left, ne_eq, Decidable.not_not, bne_iff_ne, beq_iff_eq, beq_eq_false_iff_ne, Bool.not_true, Bool.not_false] at hc0
      have hbt : b = true := by assumption
      have hfo := hb.1 hbt
      refine wp_skip ?_
      refine n_then ?_
      refine wp_seq ?_
      refine rg ?_
      refine st (asI rfl) ?_
      refine rg_end ?_
      refine n_then ?_
      refine wp_ret ?_
      refine ret1 (v := (.int .i64 _)) Try.results41 rfl ?_
      exact ⟨0, rfl, .inl ⟨rfl, hfo, hc0⟩, hE⟩

theorem af_rng {N : Net} {m : List Bool} {t : List Int} {b : Int} {a : Ac} (h : 2 ≤ N.p) : 0 ≤ afS N m t b a ∧ afS N m t b a < N.p := by
  unfold afS
  split
  · exact ⟨Int.emod_nonneg _ (by omega), Int.emod_lt_of_pos _ (by omega)⟩
  · exact ⟨Int.emod_nonneg _ (by omega), Int.emod_lt_of_pos _ (by omega)⟩
theorem gn_bound {N : Net} {m : List Bool} {t : List Int} {b : Int} (hN : NetOk N) (k : Nat) : -3865470566400 ≤ sumC (gnT N m t b) (N.acts.take k) ∧ sumC (gnT N m t b) (N.acts.take k) ≤ 3865470566400 := by
  have hp2 := hN.p2
  have h7 := hN.p7
  have h := sumC_bound (f := gnT N m t b) (B := 7549747200) (N.acts.take k) (fun a ha => by
    have ok := hN.acs a (List.mem_of_mem_take ha)
    have hs := slk_rng (N := N) (t := t) (a := a) hp2
    have hf := af_rng (N := N) (m := m) (t := t) (b := b) (a := a) hp2
    unfold gnT
    split
    · have h1 := prodB ok.w0 ok.w1 (b := afS N m t b a - slk N t a) (B := 7200) (by omega) (by omega)
      omega
    · omega)
  have hl := hN.ac
  have h2 : (7549747200 : Int) * (N.acts.take k).length ≤ 3865470566400 := by
    have : ((N.acts.take k).length : Int) ≤ 512 := by simp; omega
    omega
  omega
theorem gnOk_no {N : Net} {m : List Bool} {t : List Int} {b : Int} {k : Nat} (hk : k < N.acts.length) (hx : xsB m (el N.acts (k : Int)) = true) (h : (el N.acts (k : Int)).mx - (el N.acts (k : Int)).mn < afS N m t b (el N.acts (k : Int))) : gnOk N m t b = false := by
  cases hq : gnOk N m t b with
  | false => rfl
  | true =>
    unfold gnOk at hq
    have := List.all_eq_true.1 hq _ (el_mem (l := N.acts) (i := (k : Int)) (by omega) (by omega))
    rw [hx] at this
    simp at this
    omega
theorem gnOk_of {N : Net} {m : List Bool} {t : List Int} {b : Int} (h : ∀ q : Nat, q < N.acts.length → xsB m (el N.acts (q : Int)) = true → afS N m t b (el N.acts (q : Int)) ≤ (el N.acts (q : Int)).mx - (el N.acts (q : Int)).mn) : gnOk N m t b = true := by
  unfold gnOk
  rw [List.all_eq_true]
  intro a ha
  obtain ⟨q, hq, rfl⟩ := List.getElem_of_mem ha
  have e : el N.acts (q : Int) = N.acts[q] := by simp [el, hq]
  have := h q hq
  rw [e] at this
  cases hx : xsB m N.acts[q]
  · simp
  · simpa using this hx

set_option maxHeartbeats 1000000 in
set_option maxRecDepth 100000 in
theorem simplex_gain_ok (N : Net) (A : NetA) (lo hi : Nat) (t : List Int) (at_ : Option Addr) (ct : Nat) (lt ht : Nat) (m : List Bool) (am : Option Addr) (cm lm hm_ : Nat) (b : Int) (w : World) (hN : NetIn lo hi w N A) (hT : Ints lt ht w at_ t) (hM : Sl encB 1 lm hm_ w am m) (hml : m.length = N.evs.length) (hg : GoodT N t) (hb : 0 ≤ b ∧ b < N.p) : Cal Try.prog 66 [netV N A, .slice at_ t.length ct, .slice am m.length cm, .int .i64 b] w (fun v w' => ∃ c f, v = .tuple #[.int .i64 c, .bool f] ∧ f = gnOk N m t b ∧ (f = true → c = gnC N m t b) ∧ Ext w w') := by
  replace hN := hN.full
  replace hT := Ints.full hT
  replace hM := acs_full hM
  have hok := hg.ok
  have hp2 := hok.p2
  have hp7 := hok.p7
  have hac := hok.ac
  have hE : Out 0 0 w w := Out.refl _ _ w
  refine enter Try.func66 rfl Try.ntmps66 rfl ?_
  refine wp_seq ?_
  refine rg ?_
  refine sd (d_boxA rfl ?_)
  intro b4 w1 hbb4 hs3 ho2 hb4
  have hz4 := ho2.size
  replace hN := hN.ext ho2
  replace hT := hT.ext ho2
  replace hM := hM.ext ho2
  replace hE := hE.step ho2 (.inl (Nat.le_refl _))
  refine st (asI rfl) ?_
  refine st (asB rfl) ?_
  refine rg_end ?_
  refine n_then ?_
  refine wp_seq ?_
  refine rg ?_
  refine st (asI rfl) ?_
  refine rg_end ?_
  refine n_then ?_
  refine wp_seq ?_
  refine wp_seq ?_
  refine rg ?_
  refine st (y_fld fld26_2 rfl) ?_
  refine st (y_lb hb4 na24 rfl rfl) ?_
  refine st (y_len Try.underlying24 rfl) ?_
  refine st (mvI rfl) ?_
  refine rg_end ?_
  refine n_then ?_
  refine wp_block ?_
  refine lp (γ := Nat) [8, 9, 10, 12, 13, 14, 18, 19, 20, 21, 22, 23, 24, 25, 26, 27, 28, 29, 30, 31, 32, 33, 34, 35, 36, 37, 38, 39, 40, 41, 42, 43, 44, 45, 46, 47, 48, 49, 50, 51, 52, 53, 54, 55, 56, 57, 58, 59, 60, 61, 62] (fun k => [(18, .int .i64 (k : Int)), (10, .int .i64 (sumC (gnT N m t b) (N.acts.take k)))]) (fun k w_ => Ext w1 w_ ∧ (k : Int) ≤ N.acts.length ∧ ∀ q : Nat, q < k → xsB m (el N.acts (q : Int)) = true → afS N m t b (el N.acts (q : Int)) ≤ (el N.acts (q : Int)).mx - (el N.acts (q : Int)).mn) (fun k => N.acts.length - k) 0 ⟨rfl, rfl, trivial⟩ ⟨Out.refl _ _ _, by omega, fun q hq => by omega⟩ ?_
  rintro k hav_ w5 ⟨ho6, hk_, hall⟩
  have hlp0 := ho6
  have hz7 := ho6.size
  replace hN := hN.ext ho6
  replace hT := hT.ext ho6
  replace hM := hM.ext ho6
  replace hE := hE.step ho6 (.inl (Nat.le_refl _))
  replace hb4 := hb4.ext ho6
  refine wp_seq ?_
  refine rg ?_
  refine st (y_lss rfl rfl) ?_
  refine rg_end ?_
  refine n_then ?_
  refine wp_seq ?_
  refine cnd rfl (fun hc0 => ?_) (fun hc0 => ?_)
  ·
    try simp only [decide_eq_true_eq, decide_eq_false_iff_not, Bool.not_eq_true', Bool.not_eq_false', Bool.and_eq_true, Bool.or_eq_true, Bool.or_eq_false_iff, Bool.cond_true_right, Bool.cond_false_right, Bool.cond_true_left, Bool.cond_false_left, ne_eq, Decidable.not_not, bne_iff_ne, beq_iff_eq, beq_eq_false_iff_ne, Bool.not_true, Bool.not_false] at hc0
    have ha := hok.acs _ (el_mem (l := N.acts) (i := (k : Int)) (by omega) hc0)
    have hgb := gn_bound (m := m) (t := t) (b := b) hok k
    have hgb1 := gn_bound (m := m) (t := t) (b := b) hok (k + 1)
    have hsr := slk_rng (N := N) (t := t) (a := (el N.acts (k : Int))) hp2
    have hafr := af_rng (N := N) (m := m) (t := t) (b := b) (a := (el N.acts (k : Int))) hp2
    have m0 := ha.m0
    have m1 := ha.m1
    have m2 := ha.m2
    refine wp_skip ?_
    refine n_then ?_
    refine wp_seq ?_
    refine wp_block ?_
    refine wp_seq ?_
    refine rg ?_
    refine st (y_ix hN.a sl24 rfl (rfl) rfl (by omega) (by omega)) ?_
    refine st (y_lw hN.a agg36 rfl (by omega) (by omega)) ?_
    refine sd (d_allocA zer36 ?_)
    intro b12 w8 hbb12 hs10 ho9 hb12
    have hz11 := ho9.size
    replace hN := hN.ext ho9
    replace hT := hT.ext ho9
    replace hM := hM.ext ho9
    replace hE := hE.step ho9 (.inl (Nat.le_refl _))
    replace hb4 := hb4.ext ho9
    replace hlp0 := hlp0.step ho9 (.inl (Nat.le_refl _))
    refine sd0 (d_stN hb12 rfl rfl sz36 rfl rfl ?_)
    intro w12 hs14 ho13 hb12'
    clear hb12; have hb12 := hb12'; clear hb12'
    have hz15 := ho13.size
    replace hN := hN.out ho13 (by first | omega | (simp only [blk_some, hi1_some] at *; omega))
    replace hT := hT.out ho13 (by first | omega | (simp only [blk_some, hi1_some] at *; omega))
    replace hM := hM.out ho13 (by first | omega | (simp only [blk_some, hi1_some] at *; omega))
    replace hE := hE.step ho13 (by first | omega | (simp only [blk_some, hi1_some] at *; omega))
    replace hb4 := hb4.out ho13 (by first | omega | (simp only [blk_some, hi1_some] at *; omega))
    replace hlp0 := hlp0.step ho13 (by first | omega | (simp only [blk_some, hi1_some] at *; omega))
    refine rg_end ?_
    refine n_then ?_
    refine wp_seq ?_
    refine wp_seq ?_
    refine rg ?_
    refine st (y_lbN hb12 agg36 rfl) ?_
    refine st (mvS rfl) ?_
    refine sc cl42 (simplex_crosses_ok N (el N.acts (k : Int)) m _ _ _ _ _ hM hml ha) rfl ?_
    rintro v20 w16 ⟨rfl, ho17⟩
    have hz21 := ho17.size
    replace hN := hN.ext ho17
    replace hT := hT.ext ho17
    replace hM := hM.ext ho17
    replace hE := hE.step ho17 (.inl (Nat.le_refl _))
    replace hb4 := hb4.ext ho17
    replace hlp0 := hlp0.step ho17 (.inl (Nat.le_refl _))
    replace hb12 := hb12.ext ho17
    refine st (y_not rfl) ?_
    refine rg_end ?_
    refine n_then ?_
    refine cnd rfl (fun hc1 => ?_) (fun hc1 => ?_)
    ·
      try simp only [decide_eq_true_eq, decide_eq_false_iff_not, Bool.not_eq_true', Bool.not_eq_false', Bool.and_eq_true, Bool.or_eq_true, Bool.or_eq_false_iff, Bool.cond_true_right, Bool.cond_false_right, Bool.cond_true_left, Bool.cond_false_left, ne_eq, Decidable.not_not, bne_iff_ne, beq_iff_eq, beq_eq_false_iff_ne, Bool.not_true, Bool.not_false] at hc1
      have hgs : sumC (gnT N m t b) (N.acts.take (k + 1)) = sumC (gnT N m t b) (N.acts.take k) + 0 := by rw [tkS hc0, sumC_snoc]; congr 1; unfold gnT; rw [if_neg (by rw [hc1]; decide)]
      have hall1 : ∀ q : Nat, q < k + 1 → xsB m (el N.acts (q : Int)) = true → afS N m t b (el N.acts (q : Int)) ≤ (el N.acts (q : Int)).mx - (el N.acts (q : Int)).mn := fun q hq hx => by
        by_cases e : q = k
        · subst e; rw [hc1] at hx; cases hx
        · exact hall q (by omega) hx
      refine wp_exit ?_
      refine e_then (e_blk (?_))
      refine n_then ?_
      refine rg ?_
      refine st (y_add rfl rfl (by omega)) ?_
      refine st (mvI rfl) ?_
      refine rg_end ?_
      exact n_then ⟨k + 1, _, rfl, same_lk rfl (same_h0), ⟨rfl, vi (by rw [hgs]; try omega), trivial⟩, ⟨hlp0, by omega, hall1⟩, by first | omega | (dsimp only; omega)⟩
    ·
      try simp only [decide_eq_true_eq, decide_eq_false_iff_not, Bool.not_eq_true', Bool.not_eq_false', Bool.and_eq_true, Bool.or_eq_true, Bool.or_eq_false_iff, Bool.cond_true_right, Bool.cond_false_right, Bool.cond_true_left, Bool.cond_false_left, ne_eq, Decidable.not_not, bne_iff_ne, beq_iff_eq, beq_eq_false_iff_ne, Bool.not_true, Bool.not_false] at hc1
      have hgs : sumC (gnT N m t b) (N.acts.take (k + 1)) = sumC (gnT N m t b) (N.acts.take k) + (el N.acts (k : Int)).wt * (afS N m t b (el N.acts (k : Int)) - slk N t (el N.acts (k : Int))) := by rw [tkS hc0, sumC_snoc]; congr 1; unfold gnT; rw [if_pos hc1]
      refine wp_skip ?_
      refine n_then ?_
      refine wp_seq ?_
      refine rg ?_
      refine st (y_lbN hb4 agg26 rfl) ?_
      refine st (mvS rfl) ?_
      refine st (y_lbN hb12 agg36 rfl) ?_
      refine sc cl71 (simplex_slack_ok N A _ _ t _ _ _ _ (el N.acts (k : Int)) _ hN hT hg ha) rfl ?_
      rintro v26 w22 ⟨rfl, ho23⟩
      have hz27 := ho23.size
      replace hN := hN.ext ho23
      replace hT := hT.ext ho23
      replace hM := hM.ext ho23
      replace hE := hE.step ho23 (.inl (Nat.le_refl _))
      replace hb4 := hb4.ext ho23
      replace hlp0 := hlp0.step ho23 (.inl (Nat.le_refl _))
      replace hb12 := hb12.ext ho23
      refine st (asI rfl) ?_
      refine rg_end ?_
      refine n_then ?_
      refine wp_seq ?_
      refine rg ?_
      refine st (mvI rfl) ?_
      refine st (mvI rfl) ?_
      refine st (y_add rfl rfl (by omega)) ?_
      refine st (y_fld fld26_0 rfl) ?_
      refine st (y_lb hb4 na3 rfl rfl) ?_
      refine sc cl61 (arith_Mod_ok _ _ _ (by omega) (by omega) (by omega)) rfl ?_
      rintro v32 w28 ⟨rfl, ho29⟩
      have hz33 := ho29.size
      replace hN := hN.ext ho29
      replace hT := hT.ext ho29
      replace hM := hM.ext ho29
      replace hE := hE.step ho29 (.inl (Nat.le_refl _))
      replace hb4 := hb4.ext ho29
      replace hlp0 := hlp0.step ho29 (.inl (Nat.le_refl _))
      replace hb12 := hb12.ext ho29
      refine st (asI rfl) ?_
      refine rg_end ?_
      refine n_then ?_
      refine wp_seq ?_
      refine wp_seq ?_
      refine rg ?_
      refine st (mvS rfl) ?_
      refine st (y_fld fld36_1 rfl) ?_
      refine st (y_lb hb12 na3 rfl rfl) ?_
      refine st (y_ix hM sl31 rfl (rfl) rfl (ha.f0) (by have := ha.f1; omega)) ?_
      refine st (y_le hM na4 rfl (ha.f0) (by have := ha.f1; omega) rfl) ?_
      refine rg_end ?_
      refine n_then ?_
      refine cnd rfl (fun hc2 => ?_) (fun hc2 => ?_)
      ·
        try simp only [decide_eq_true_eq, decide_eq_false_iff_not, Bool.not_eq_true', Bool.not_eq_false', Bool.and_eq_true, Bool.or_eq_true, Bool.or_eq_false_iff, Bool.cond_true_right, Bool.cond_false_right, Bool.cond_true_left, Bool.cond_false_left, ne_eq, Decidable.not_not, bne_iff_ne, beq_iff_eq, beq_eq_false_iff_ne, Bool.not_true, Bool.not_false] at hc2
        have haf : afS N m t b (el N.acts (k : Int)) = (slk N t (el N.acts (k : Int)) - b) % N.p := if_pos hc2
        refine rg ?_
        refine st (mvI rfl) ?_
        refine st (mvI rfl) ?_
        refine st (y_sub rfl rfl (by omega)) ?_
        refine st (y_fld fld26_0 rfl) ?_
        refine st (y_lb hb4 na3 rfl rfl) ?_
        refine sc cl61 (arith_Mod_ok _ _ _ (by omega) (by omega) (by omega)) rfl ?_
        rintro v38 w34 ⟨rfl, ho35⟩
        rw [← haf]
        have hz39 := ho35.size
        replace hN := hN.ext ho35
        replace hT := hT.ext ho35
        replace hM := hM.ext ho35
        replace hE := hE.step ho35 (.inl (Nat.le_refl _))
        replace hb4 := hb4.ext ho35
        replace hlp0 := hlp0.step ho35 (.inl (Nat.le_refl _))
        replace hb12 := hb12.ext ho35
        refine st (asI rfl) ?_
        refine rg_end ?_
        refine n_then ?_
        refine wp_seq ?_
        refine wp_seq ?_
        refine rg ?_
        refine st (mvI rfl) ?_
        refine st (y_fld fld36_4 rfl) ?_
        refine st (y_lb hb12 na3 rfl rfl) ?_
        refine st (y_fld fld36_3 rfl) ?_
        refine st (y_lb hb12 na3 rfl rfl) ?_
        refine st (y_sub rfl rfl (by omega)) ?_
        refine st (y_gtr rfl rfl) ?_
        refine rg_end ?_
        refine n_then ?_
        refine cnd rfl (fun hc3 => ?_) (fun hc3 => ?_)
        ·
          try simp only [decide_eq_true_eq, decide_eq_false_iff_not, Bool.not_eq_true', Bool.not_eq_false', Bool.and_eq_true, Bool.or_eq_true, Bool.or_eq_false_iff, Bool.cond_true_right, Bool.cond_false_right, Bool.cond_true_left, Bool.cond_false_left, ne_eq, Decidable.not_not, bne_iff_ne, beq_iff_eq, beq_eq_false_iff_ne, Bool.not_true, Bool.not_false] at hc3
          have hgn := gnOk_no (N := N) (m := m) (t := t) (b := b) (k := k) (by omega) hc1 (by omega)
          refine wp_seq ?_
          refine rg ?_
          refine st (asI rfl) ?_
          refine st (asB rfl) ?_
          refine rg_end ?_
          refine n_then ?_
          refine wp_ret ?_
          refine r_then (r_blk (r_then (r_then (r_blk (r_then (ret2 (v := (.int .i64 _)) (v' := (.bool _)) Try.results66 rfl rfl ?_))))))
          exact ⟨0, false, rfl, hgn.symm, (fun h => by cases h), hE⟩
        ·
          try simp only [decide_eq_true_eq, decide_eq_false_iff_not, Bool.not_eq_true', Bool.not_eq_false', Bool.and_eq_true, Bool.or_eq_true, Bool.or_eq_false_iff, Bool.cond_true_right, Bool.cond_false_right, Bool.cond_true_left, Bool.cond_false_left, ne_eq, Decidable.not_not, bne_iff_ne, beq_iff_eq, beq_eq_false_iff_ne, Bool.not_true, Bool.not_false] at hc3
          have hall1 : ∀ q : Nat, q < k + 1 → xsB m (el N.acts (q : Int)) = true → afS N m t b (el N.acts (q : Int)) ≤ (el N.acts (q : Int)).mx - (el N.acts (q : Int)).mn := fun q hq hx => by
            by_cases e : q = k
            · subst e; omega
            · exact hall q (by omega) hx
          have hpb := prodB ha.w0 ha.w1 (b := afS N m t b (el N.acts (k : Int)) - slk N t (el N.acts (k : Int))) (B := 7200) (by omega) (by omega)
          refine wp_skip ?_
          refine n_then ?_
          refine rg ?_
          refine st (mvI rfl) ?_
          refine st (y_fld fld36_5 rfl) ?_
          refine st (y_lb hb12 na3 rfl rfl) ?_
          refine st (mvI rfl) ?_
          refine st (mvI rfl) ?_
          refine st (y_sub rfl rfl (by omega)) ?_
          refine st (y_mul rfl rfl (by omega)) ?_
          refine st (y_add rfl rfl (by omega)) ?_
          refine st (asI rfl) ?_
          refine rg_end ?_
          refine n_blk ?_
          refine n_then ?_
          refine rg ?_
          refine st (y_add rfl rfl (by omega)) ?_
          refine st (mvI rfl) ?_
          refine rg_end ?_
          exact n_then ⟨k + 1, _, rfl, same_lk rfl (same_h0), ⟨rfl, vi (by rw [hgs]; try omega), trivial⟩, ⟨hlp0, by omega, hall1⟩, by first | omega | (dsimp only; omega)⟩
      ·
        try simp only [decide_eq_true_eq, decide_eq_false_iff_not, Bool.not_eq_true', Bool.not_eq_false', Bool.and_eq_true, Bool.or_eq_true, Bool.or_eq_false_iff, Bool.cond_true_right, Bool.cond_false_right, Bool.cond_true_left, Bool.cond_false_left, ne_eq, Decidable.not_not, bne_iff_ne, beq_iff_eq, beq_eq_false_iff_ne, Bool.not_true, Bool.not_false] at hc2
        have haf : afS N m t b (el N.acts (k : Int)) = (slk N t (el N.acts (k : Int)) + b) % N.p := if_neg (by rw [hc2]; decide)
        rw [← haf]
        refine wp_skip ?_
        refine n_then ?_
        refine wp_seq ?_
        refine wp_seq ?_
        refine rg ?_
        refine st (mvI rfl) ?_
        refine st (y_fld fld36_4 rfl) ?_
        refine st (y_lb hb12 na3 rfl rfl) ?_
        refine st (y_fld fld36_3 rfl) ?_
        refine st (y_lb hb12 na3 rfl rfl) ?_
        refine st (y_sub rfl rfl (by omega)) ?_
        refine st (y_gtr rfl rfl) ?_
        refine rg_end ?_
        refine n_then ?_
        refine cnd rfl (fun hc3 => ?_) (fun hc3 => ?_)
        ·
          try simp only [decide_eq_true_eq, decide_eq_false_iff_not, Bool.not_eq_true', Bool.not_eq_false', Bool.and_eq_true, Bool.or_eq_true, Bool.or_eq_false_iff, Bool.cond_true_right, Bool.cond_false_right, Bool.cond_true_left, Bool.cond_false_left, ne_eq, Decidable.not_not, bne_iff_ne, beq_iff_eq, beq_eq_false_iff_ne, Bool.not_true, Bool.not_false] at hc3
          have hgn := gnOk_no (N := N) (m := m) (t := t) (b := b) (k := k) (by omega) hc1 (by omega)
          refine wp_seq ?_
          refine rg ?_
          refine st (asI rfl) ?_
          refine st (asB rfl) ?_
          refine rg_end ?_
          refine n_then ?_
          refine wp_ret ?_
          refine r_then (r_blk (r_then (r_then (r_blk (r_then (ret2 (v := (.int .i64 _)) (v' := (.bool _)) Try.results66 rfl rfl ?_))))))
          exact ⟨0, false, rfl, hgn.symm, (fun h => by cases h), hE⟩
        ·
          try simp only [decide_eq_true_eq, decide_eq_false_iff_not, Bool.not_eq_true', Bool.not_eq_false', Bool.and_eq_true, Bool.or_eq_true, Bool.or_eq_false_iff, Bool.cond_true_right, Bool.cond_false_right, Bool.cond_true_left, Bool.cond_false_left, ne_eq, Decidable.not_not, bne_iff_ne, beq_iff_eq, beq_eq_false_iff_ne, Bool.not_true, Bool.not_false] at hc3
          have hall1 : ∀ q : Nat, q < k + 1 → xsB m (el N.acts (q : Int)) = true → afS N m t b (el N.acts (q : Int)) ≤ (el N.acts (q : Int)).mx - (el N.acts (q : Int)).mn := fun q hq hx => by
            by_cases e : q = k
            · subst e; omega
            · exact hall q (by omega) hx
          have hpb := prodB ha.w0 ha.w1 (b := afS N m t b (el N.acts (k : Int)) - slk N t (el N.acts (k : Int))) (B := 7200) (by omega) (by omega)
          refine wp_skip ?_
          refine n_then ?_
          refine rg ?_
          refine st (mvI rfl) ?_
          refine st (y_fld fld36_5 rfl) ?_
          refine st (y_lb hb12 na3 rfl rfl) ?_
          refine st (mvI rfl) ?_
          refine st (mvI rfl) ?_
          refine st (y_sub rfl rfl (by omega)) ?_
          refine st (y_mul rfl rfl (by omega)) ?_
          refine st (y_add rfl rfl (by omega)) ?_
          refine st (asI rfl) ?_
          refine rg_end ?_
          refine n_blk ?_
          refine n_then ?_
          refine rg ?_
          refine st (y_add rfl rfl (by omega)) ?_
          refine st (mvI rfl) ?_
          refine rg_end ?_
          exact n_then ⟨k + 1, _, rfl, same_lk rfl (same_h0), ⟨rfl, vi (by rw [hgs]; try omega), trivial⟩, ⟨hlp0, by omega, hall1⟩, by first | omega | (dsimp only; omega)⟩
  ·
    try simp only [decide_eq_true_eq, decide_eq_false_iff_not, Bool.not_eq_true', Bool.not_eq_false', Bool.and_eq_true, Bool.or_eq_true, Bool.or_eq_false_iff, Bool.cond_true_right, Bool.cond_false_right, Bool.cond_true_left, Bool.cond_false_left, ne_eq, Decidable.not_not, bne_iff_ne, beq_iff_eq, beq_eq_false_iff_ne, Bool.not_true, Bool.not_false] at hc0
    have hkl : N.acts.take k = N.acts := tkE hc0
    refine wp_exit ?_
    refine e_then (e_then (e_blk (?_)))
    refine n_then ?_
    refine wp_seq ?_
    refine rg ?_
    refine st (mvI rfl) ?_
    refine st (asI rfl) ?_
    refine st (asB rfl) ?_
    refine rg_end ?_
    refine n_then ?_
    refine wp_ret ?_
    refine ret2 (v := (.int .i64 _)) (v' := (.bool _)) Try.results66 rfl rfl ?_
    exact ⟨_, true, rfl, (gnOk_of (fun q hq => hall q (by omega))).symm, (fun _ => by rw [hkl]; rfl), hE⟩
end Go.Proofs.Ytgekfafangcggaa
