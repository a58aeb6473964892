/-
  Walks of the functions, printed by a program out of the code and the loops' relations.
-/
import Derived.Test.YtdbiapbdmmkfjaaWkD
import Derived.Test.YtdbiapbdmmkfjaaProg
import Derived.KernelRfl
import Derived.Test.YtdbiapbdmmkfjaaF3
namespace Go.Proofs.Ytdbiapbdmmkfjaa
open Go.Wk Go.RowKit
set_option linter.unusedVariables false
set_option linter.unusedSimpArgs false
theorem cl27 : Callable Try.prog 27 := ⟨Try.call27⟩
theorem cl29 : Callable Try.prog 29 := ⟨Try.call29⟩

theorem rootOfC {N : Net} {R : Int → Int} {l : List Int} (hR : Rp N R) (hc : CompTo N.evs.length (conB N.acts) N.evs.length l) {k : Nat} (hk : k < N.evs.length) :
    0 ≤ R k ∧ R k ≤ k ∧ el l (R k) = el l (k : Int) ∧ ∀ f : Nat, (f : Int) ≤ R k → el l (f : Int) = el l (k : Int) → (f : Int) = R k := by
  obtain ⟨P, hu⟩ := hR.uf
  have hr := hu.rng k (by omega) (by omega)
  have hi := hu.idem k (by omega) (by omega)
  obtain ⟨q, hq⟩ : ∃ q : Nat, R k = q := ⟨(R k).toNat, by omega⟩
  rw [hq] at hr hi ⊢
  have hf := (hu.first hR.tl (i := q) (by omega)).2 hi
  have he : el l (q : Int) = el l (k : Int) := by
    by_cases e : q = k
    · rw [e]
    · exact (hc.again k q hk (by omega) ((hR.tl q k (by omega) (by omega) (by omega) (by omega)).2 (by rw [hi, hq]))).symm
  refine ⟨hr.1, hr.2, he, fun f h1 h2 => ?_⟩
  apply Classical.byContradiction
  intro hne
  exact (hc.differs (i := q) (by omega)).1 hf f (by omega) (h2.trans he.symm)
theorem anch_cand2 {N : Net} {R : Int → Int} {x : List Int} (hR : Rp N R) (h : feas N (anch N R x) = true) : Cand N (anch N R x) := by
  obtain ⟨hg, hs⟩ := feas_iff.1 h
  have hp := hg.ok.p2
  obtain ⟨P, hu⟩ := hR.uf
  refine ⟨anch_len N R x, fun j hj => ?_, hs⟩
  rw [anch_el (by omega) (by omega)]
  refine ⟨Int.emod_nonneg _ (by omega), ?_⟩
  unfold limI
  by_cases hf : fstB (conB N.acts) j = true
  · rw [if_pos hf, (hu.first hR.tl hj).1 hf, Int.sub_self, Int.zero_emod]; omega
  · rw [if_neg hf]; exact Int.emod_lt_of_pos _ (by omega)
theorem rem_anch {a b p : Int} (a0 : 0 ≤ a) (b1 : b < p) : (a - b + p).tmod p = (a - b) % p := by
  rw [Int.tmod_eq_emod_of_nonneg (by omega), Int.add_emod_right]

set_option maxRecDepth 100000 in
theorem law17_less_ok (aa : Option Addr) (ca : Nat) (a : List Int) (ab : Option Addr) (cb : Nat) (b : List Int) (lo1 hi1 lo2 hi2 : Nat) (w : World) (hA : Ints lo1 hi1 w aa a) (hB : Ints lo2 hi2 w ab b) (hl : a.length = b.length) (hn : a.length ≤ 48) : Cal Try.prog 29 [.slice aa a.length ca, .slice ab b.length cb] w (fun v w' => ∃ r, v = .bool r ∧ (r = true → Lx a b) ∧ Ext w w') := by
  replace hA := Ints.full hA
  replace hB := Ints.full hB
  have hE : Out 0 0 w w := Out.refl _ _ w
  refine enter Try.func29 rfl Try.ntmps29 rfl ?_
  refine wp_seq ?_
  refine rg ?_
  refine st (asB rfl) ?_
  refine rg_end ?_
  refine n_then ?_
  refine wp_seq ?_
  refine wp_seq ?_
  refine rg ?_
  refine st (mvS rfl) ?_
  refine st (y_len Try.underlying22 rfl) ?_
  refine st (mvI rfl) ?_
  refine rg_end ?_
  refine n_then ?_
  refine wp_block ?_
  refine lp (γ := Nat) [4, 5, 8, 9, 10, 11, 12, 13, 14, 15, 16, 17, 18, 19, 20, 21, 22, 23, 24, 25, 26, 27, 28, 29, 30, 31, 32, 33, 34, 35] (fun k => [(8, .int .i64 (k : Int))]) (fun k w_ => Ext w w_ ∧ (k : Int) ≤ a.length ∧ (∀ q : Nat, q < k → el a (q : Int) = el b (q : Int))) (fun k => a.length - k) 0 ⟨rfl, trivial⟩ ⟨Out.refl _ _ _, by simp, (fun q hq => by omega)⟩ ?_
  rintro k hav_ w1 ⟨ho2, hk, hpre⟩
  have hlp0 := ho2
  have hz3 := ho2.size
  replace hA := hA.ext ho2
  replace hB := hB.ext ho2
  replace hE := hE.step ho2 (.inl (Nat.le_refl _))
  refine wp_seq ?_
  refine rg ?_
  refine st (y_lss rfl rfl) ?_
  refine rg_end ?_
  refine n_then ?_
  refine wp_seq ?_
  refine cnd rfl (fun hc0 => ?_) (fun hc0 => ?_)
  ·
    try simp only [decide_eq_true_eq, decide_eq_false_iff_not, Bool.not_eq_true', Bool.not_eq_false', Bool.and_eq_true, Bool.or_eq_true, Bool.or_eq_false_iff, Bool.cond_true_right, Bool.cond_false_right, Bool.cond_true_left, Bool.cond_false_left, ne_eq, Decidable.not_not, bne_iff_ne, beq_iff_eq, beq_eq_false_iff_ne, Bool.not_true, Bool.not_false] at hc0
    refine wp_skip ?_
    refine n_then ?_
    refine wp_seq ?_
    refine wp_block ?_
    refine wp_seq ?_
    refine rg ?_
    refine st (mvI rfl) ?_
    refine st (asI rfl) ?_
    refine rg_end ?_
    refine n_then ?_
    refine wp_seq ?_
    refine rgD 13 (fun w_ => Ext w1 w_) (fun i => false) mixed (by kernel_rfl) ?_
    intro w4 ho5 hs6
    refine ⟨ho5, ?_⟩
    have hx7 := ho5
    refine tn rfl (fun _ hG => mvI rfl) ?_
    refine tn rfl (fun _ hG => mvS rfl) ?_
    refine tn rfl (fun _ hG => y_len Try.underlying22 rfl) ?_
    refine tn rfl (fun _ hG => y_lss rfl rfl) ?_
    refine tn rfl (fun _ hG => mvB rfl) ?_
    refine tng rfl rfl rfl (decide_eq_true (by omega)) (fun _ hG => mvS rfl) ?_
    refine tng rfl rfl rfl (decide_eq_true (by omega)) (fun _ hG => mvI rfl) ?_
    refine tng rfl rfl rfl (decide_eq_true (by omega)) (fun _ hG => y_ix (hA.ext hG) sl22 rfl (rfl) rfl (by omega) (by omega)) ?_
    refine tng rfl rfl rfl (decide_eq_true (by omega)) (fun _ hG => y_le (hA.ext hG) na3 rfl (by omega) (by omega) rfl) ?_
    refine tng rfl rfl rfl (decide_eq_true (by omega)) (fun _ hG => mvS rfl) ?_
    refine tng rfl rfl rfl (decide_eq_true (by omega)) (fun _ hG => mvI rfl) ?_
    refine tng rfl rfl rfl (decide_eq_true (by omega)) (fun _ hG => y_ix (hB.ext hG) sl22 rfl (rfl) rfl (by omega) (by omega)) ?_
    refine tng rfl rfl rfl (decide_eq_true (by omega)) (fun _ hG => y_le (hB.ext hG) na3 rfl (by omega) (by omega) rfl) ?_
    refine t_end ?_
    have hz8 := hx7.size
    replace hA := hA.ext hx7
    replace hB := hB.ext hx7
    replace hE := hE.step hx7 (.inl (Nat.le_refl _))
    replace hlp0 := hlp0.step hx7 (.inl (Nat.le_refl _))
    refine stg rfl rfl (decide_eq_true (by omega)) (y_neq rfl rfl) ?_
    refine st (y_pickT rfl (decide_eq_true (by omega)) (v := .bool _) rfl) ?_
    refine rg_end ?_
    refine n_then ?_
    refine cnd rfl (fun hc1 => ?_) (fun hc1 => ?_)
    ·
      try simp only [decide_eq_true_eq, decide_eq_false_iff_not, Bool.not_eq_true', Bool.not_eq_false', Bool.and_eq_true, Bool.or_eq_true, Bool.or_eq_false_iff, Bool.cond_true_right, Bool.cond_false_right, Bool.cond_true_left, Bool.cond_false_left, ne_eq, Decidable.not_not, bne_iff_ne, beq_iff_eq, beq_eq_false_iff_ne, Bool.not_true, Bool.not_false] at hc1
      refine wp_seq ?_
      refine rgD 8 (fun w_ => Ext w4 w_) (fun i => false) mixed (by kernel_rfl) ?_
      intro w9 ho10 hs11
      refine ⟨ho10, ?_⟩
      have hx12 := ho10
      refine tn rfl (fun _ hG => mvS rfl) ?_
      refine tn rfl (fun _ hG => mvI rfl) ?_
      refine tn rfl (fun _ hG => y_ix (hA.ext hG) sl22 rfl (rfl) rfl (by omega) (by omega)) ?_
      refine tn rfl (fun _ hG => y_le (hA.ext hG) na3 rfl (by omega) (by omega) rfl) ?_
      refine tn rfl (fun _ hG => mvS rfl) ?_
      refine tn rfl (fun _ hG => mvI rfl) ?_
      refine tn rfl (fun _ hG => y_ix (hB.ext hG) sl22 rfl (rfl) rfl (by omega) (by omega)) ?_
      refine tn rfl (fun _ hG => y_le (hB.ext hG) na3 rfl (by omega) (by omega) rfl) ?_
      refine t_end ?_
      have hz13 := hx12.size
      replace hA := hA.ext hx12
      replace hB := hB.ext hx12
      replace hE := hE.step hx12 (.inl (Nat.le_refl _))
      replace hlp0 := hlp0.step hx12 (.inl (Nat.le_refl _))
      refine st (y_lss rfl rfl) ?_
      refine st (asB rfl) ?_
      refine rg_end ?_
      refine n_then ?_
      refine wp_ret ?_
      refine r_blk (r_then (r_then (r_blk (r_then (ret1 (v := (.bool _)) Try.results29 rfl ?_)))))
      exact ⟨_, rfl, fun hr => ⟨k, by omega, hpre, by simpa using hr⟩, hE⟩
    ·
      try simp only [decide_eq_true_eq, decide_eq_false_iff_not, Bool.not_eq_true', Bool.not_eq_false', Bool.and_eq_true, Bool.or_eq_true, Bool.or_eq_false_iff, Bool.cond_true_right, Bool.cond_false_right, Bool.cond_true_left, Bool.cond_false_left, ne_eq, Decidable.not_not, bne_iff_ne, beq_iff_eq, beq_eq_false_iff_ne, Bool.not_true, Bool.not_false] at hc1
      refine wp_skip ?_
      refine n_blk ?_
      refine n_then ?_
      refine rg ?_
      refine st (y_add rfl rfl (by omega)) ?_
      refine st (mvI rfl) ?_
      refine rg_end ?_
      exact n_then ⟨k + 1, _, rfl, same_lk rfl (same_h0), ⟨rfl, trivial⟩, ⟨hlp0, by omega, (fun q hq => by
  by_cases e : q = k
  · subst e; exact hc1
  · exact hpre q (by omega))⟩, by first | omega | (dsimp only; omega)⟩
  ·
    try simp only [decide_eq_true_eq, decide_eq_false_iff_not, Bool.not_eq_true', Bool.not_eq_false', Bool.and_eq_true, Bool.or_eq_true, Bool.or_eq_false_iff, Bool.cond_true_right, Bool.cond_false_right, Bool.cond_true_left, Bool.cond_false_left, ne_eq, Decidable.not_not, bne_iff_ne, beq_iff_eq, beq_eq_false_iff_ne, Bool.not_true, Bool.not_false] at hc0
    refine wp_exit ?_
    refine e_then (e_then (e_blk (?_)))
    refine n_then ?_
    refine wp_seq ?_
    refine rg ?_
    refine st (asB rfl) ?_
    refine rg_end ?_
    refine n_then ?_
    refine wp_ret ?_
    refine ret1 (v := (.bool _)) Try.results29 rfl ?_
    exact ⟨_, rfl, fun hr => (by cases hr), hE⟩

set_option maxHeartbeats 1000000 in
set_option maxRecDepth 100000 in
theorem law17_anchored_ok (N : Net) (A : NetA) (lo hi : Nat) (t : List Int) (at_ : Option Addr) (ct : Nat) (lt ht : Nat) (R : Int → Int) (w : World) (hN : NetIn lo hi w N A) (hT : Ints lt ht w at_ t) (hR : Rp N R) (hg : GoodT N t) : Cal Try.prog 27 [netV N A, .slice at_ t.length ct] w (fun v w' => ∃ ad c, v = .slice ad (anch N R t).length c ∧ Ints w.heap.size w'.heap.size w' ad (anch N R t) ∧ Ext w w') := by
  replace hN := hN.full
  replace hT := Ints.full hT
  have hok := hg.ok
  have htl := hg.len
  have hev := hok.ev
  have hp2 := hok.p2
  have hp7 := hok.p7
  have hE : Out 0 0 w w := Out.refl _ _ w
  refine enter Try.func27 rfl Try.ntmps27 rfl ?_
  refine wp_seq ?_
  refine rg ?_
  refine sd (d_boxA rfl ?_)
  intro b2 w1 hbb2 hs3 ho2 hb2
  have hz4 := ho2.size
  replace hN := hN.ext ho2
  replace hT := hT.ext ho2
  replace hE := hE.step ho2 (.inl (Nat.le_refl _))
  refine st (asS rfl) ?_
  refine rg_end ?_
  refine n_then ?_
  refine wp_seq ?_
  refine rg ?_
  refine st (y_lbN hb2 agg26 rfl) ?_
  refine sc cl45 (ref11_Components_ok N A _ _ _ hN) rfl ?_
  rintro v9 w5 ⟨ac, cc, l, rfl, hC, _, hcm, ho6⟩
  replace hcm := hcm (netOk_iff.2 hok)
  have hcl := hcm.len
  have hz10 := ho6.size
  replace hN := hN.ext ho6
  replace hT := hT.ext ho6
  replace hE := hE.step ho6 (.inl (Nat.le_refl _))
  replace hb2 := hb2.ext ho6
  refine st (asS rfl) ?_
  refine rg_end ?_
  refine n_then ?_
  refine wp_seq ?_
  refine rg ?_
  refine st (asS rfl) ?_
  refine rg_end ?_
  refine n_then ?_
  refine wp_seq ?_
  refine wp_seq ?_
  refine rg ?_
  refine st (mvS rfl) ?_
  refine st (y_len Try.underlying22 rfl) ?_
  refine st (mvI rfl) ?_
  refine rg_end ?_
  refine n_then ?_
  refine wp_block ?_
  obtain ⟨z1, hz1⟩ : ∃ z, z = w5.heap.size := ⟨_, rfl⟩
  refine lp (γ := Nat × List Int × Option Addr × Nat) [6, 7, 8, 13, 14, 15, 16, 17, 18, 19, 20, 21, 22, 23, 24, 25, 26, 27, 28, 29, 30, 31, 32, 33, 34, 35, 36, 37, 38, 39, 40, 41, 42, 43, 44, 45] (fun ⟨k, out, ao, co⟩ => [(13, .int .i64 (k : Int)), (6, .slice ao out.length co)]) (fun ⟨k, out, ao, co⟩ w_ => Ext w5 w_ ∧ (k : Int) ≤ t.length ∧ out = (anch N R t).take k ∧ Ow 3 encI 1 z1 w_.heap.size w_ ao co out) (fun ⟨k, out, ao, co⟩ => t.length - k) (0, [], none, 0) ⟨rfl, rfl, trivial⟩ ⟨Out.refl _ _ _, by simp, by simp, Ow.nil (fun _ => rfl)⟩ ?_
  rintro ⟨k, out, ao, co⟩ hav_ w11 ⟨ho12, hk, ho, hO⟩
  have hlp0 := ho12
  have hz13 := ho12.size
  replace hN := hN.ext ho12
  replace hT := hT.ext ho12
  replace hE := hE.step ho12 (.inl (Nat.le_refl _))
  replace hb2 := hb2.ext ho12
  replace hC := hC.ext ho12
  refine wp_seq ?_
  refine rg ?_
  refine st (y_lss rfl rfl) ?_
  refine rg_end ?_
  refine n_then ?_
  refine wp_seq ?_
  refine cnd rfl (fun hc0 => ?_) (fun hc0 => ?_)
  ·
    try simp only [decide_eq_true_eq, decide_eq_false_iff_not, Bool.not_eq_true', Bool.not_eq_false', Bool.and_eq_true, Bool.or_eq_true, Bool.or_eq_false_iff, Bool.cond_true_right, Bool.cond_false_right, Bool.cond_true_left, Bool.cond_false_left, ne_eq, Decidable.not_not, bne_iff_ne, beq_iff_eq, beq_eq_false_iff_ne, Bool.not_true, Bool.not_false] at hc0
    obtain ⟨r0, r1, r2, r3⟩ := rootOfC hR hcm (k := k) (by omega)
    have hol : out.length = k := by rw [ho]; simp [anch_len]; omega
    have ht0 := hg.rng _ (el_mem (l := t) (i := (k : Int)) (by omega) hc0)
    refine wp_skip ?_
    refine n_then ?_
    refine wp_seq ?_
    refine wp_block ?_
    refine wp_seq ?_
    refine rg ?_
    refine st (mvI rfl) ?_
    refine st (asI rfl) ?_
    refine rg_end ?_
    refine n_then ?_
    refine wp_seq ?_
    refine rg ?_
    refine st (asI rfl) ?_
    refine rg_end ?_
    refine n_then ?_
    refine wp_seq ?_
    refine wp_block ?_
    refine lp (γ := Nat) [8, 16, 17, 18, 19, 20, 21, 22, 23, 24, 25, 26] (fun f => [(8, .int .i64 (f : Int))]) (fun f w_ => Ext w11 w_ ∧ (f : Int) ≤ R k) (fun f => (R k).toNat - f) 0 ⟨rfl, trivial⟩ ⟨Out.refl _ _ _, by omega⟩ ?_
    rintro f hav_ w14 ⟨ho15, hf⟩
    have hlp1 := ho15
    have hz16 := ho15.size
    replace hN := hN.ext ho15
    replace hT := hT.ext ho15
    replace hE := hE.step ho15 (.inl (Nat.le_refl _))
    replace hb2 := hb2.ext ho15
    replace hC := hC.ext ho15
    replace hO := hO.ext ho15
    replace hlp0 := hlp0.step ho15 (.inl (Nat.le_refl _))
    refine wp_seq ?_
    refine wp_seq ?_
    refine rgD 8 (fun w_ => Ext w14 w_) (fun i => false) mixed (by kernel_rfl) ?_
    intro w17 ho18 hs19
    refine ⟨ho18, ?_⟩
    have hx20 := ho18
    refine tn rfl (fun _ hG => mvS rfl) ?_
    refine tn rfl (fun _ hG => mvI rfl) ?_
    refine tn rfl (fun _ hG => y_ix (hC.ext hG) sl22 rfl (rfl) rfl (by omega) (by omega)) ?_
    refine tn rfl (fun _ hG => y_le (hC.ext hG) na3 rfl (by omega) (by omega) rfl) ?_
    refine tn rfl (fun _ hG => mvS rfl) ?_
    refine tn rfl (fun _ hG => mvI rfl) ?_
    refine tn rfl (fun _ hG => y_ix (hC.ext hG) sl22 rfl (rfl) rfl (by omega) (by omega)) ?_
    refine tn rfl (fun _ hG => y_le (hC.ext hG) na3 rfl (by omega) (by omega) rfl) ?_
    refine t_end ?_
    have hz21 := hx20.size
    replace hN := hN.ext hx20
    replace hT := hT.ext hx20
    replace hE := hE.step hx20 (.inl (Nat.le_refl _))
    replace hb2 := hb2.ext hx20
    replace hC := hC.ext hx20
    replace hO := hO.ext hx20
    replace hlp0 := hlp0.step hx20 (.inl (Nat.le_refl _))
    replace hlp1 := hlp1.step hx20 (.inl (Nat.le_refl _))
    refine st (y_neq rfl rfl) ?_
    refine rg_end ?_
    refine n_then ?_
    refine cnd rfl (fun hc1 => ?_) (fun hc1 => ?_)
    ·
      try simp only [decide_eq_true_eq, decide_eq_false_iff_not, Bool.not_eq_true', Bool.not_eq_false', Bool.and_eq_true, Bool.or_eq_true, Bool.or_eq_false_iff, Bool.cond_true_right, Bool.cond_false_right, Bool.cond_true_left, Bool.cond_false_left, ne_eq, Decidable.not_not, bne_iff_ne, beq_iff_eq, beq_eq_false_iff_ne, Bool.not_true, Bool.not_false] at hc1
      have hne : (f : Int) ≠ R k := fun e => hc1 (by rw [e]; exact r2)
      refine wp_skip ?_
      refine n_then ?_
      refine wp_block ?_
      refine rg ?_
      refine st (mvI rfl) ?_
      refine st (y_add rfl rfl (by omega)) ?_
      refine st (asI rfl) ?_
      refine rg_end ?_
      refine n_blk ?_
      exact n_then ⟨f + 1, _, rfl, same_lk rfl (same_h0), ⟨rfl, trivial⟩, ⟨hlp1, by omega⟩, by first | omega | (dsimp only; omega)⟩
    ·
      try simp only [decide_eq_true_eq, decide_eq_false_iff_not, Bool.not_eq_true', Bool.not_eq_false', Bool.and_eq_true, Bool.or_eq_true, Bool.or_eq_false_iff, Bool.cond_true_right, Bool.cond_false_right, Bool.cond_true_left, Bool.cond_false_left, ne_eq, Decidable.not_not, bne_iff_ne, beq_iff_eq, beq_eq_false_iff_ne, Bool.not_true, Bool.not_false] at hc1
      have hfr := r3 f hf hc1
      have ht1 := hg.rng _ (el_mem (l := t) (i := (f : Int)) (by omega) (by omega))
      refine wp_exit ?_
      refine e_then (e_then (e_blk (?_)))
      refine n_then ?_
      refine rgD 17 (fun w_ => Ext w17 w_) (fun i => Nat.beq i 16) mixed (by kernel_rfl) ?_
      intro w22 ho23 hs24
      refine ⟨ho23, ?_⟩
      have hx25 := ho23
      refine tn rfl (fun _ hG => mvS rfl) ?_
      refine tn rfl (fun _ hG => mvS rfl) ?_
      refine tn rfl (fun _ hG => mvI rfl) ?_
      refine tn rfl (fun _ hG => y_ix (hT.ext hG) sl22 rfl (rfl) rfl (by omega) (by omega)) ?_
      refine tn rfl (fun _ hG => y_le (hT.ext hG) na3 rfl (by omega) (by omega) rfl) ?_
      refine tn rfl (fun _ hG => mvS rfl) ?_
      refine tn rfl (fun _ hG => mvI rfl) ?_
      refine tn rfl (fun _ hG => y_ix (hT.ext hG) sl22 rfl (rfl) rfl (by omega) (by omega)) ?_
      refine tn rfl (fun _ hG => y_le (hT.ext hG) na3 rfl (by omega) (by omega) rfl) ?_
      refine tn rfl (fun _ hG => y_sub rfl rfl (by omega)) ?_
      refine tn rfl (fun _ hG => y_fld fld26_0 rfl) ?_
      refine tn rfl (fun _ hG => y_lb (hb2.ext hG) na3 rfl rfl) ?_
      refine tn rfl (fun _ hG => y_add rfl rfl (by omega)) ?_
      refine tn rfl (fun _ hG => y_fld fld26_0 rfl) ?_
      refine tn rfl (fun _ hG => y_lb (hb2.ext hG) na3 rfl rfl) ?_
      refine tn rfl (fun _ hG => y_rem rfl rfl (by omega)) ?_
      refine td rfl (d_bs (bsl22_1 _ _) rfl ?_)
      intro bl29 w26 hbbl29 hs28 ho27 hbl29
      have hx30 := hx25.step ho27 (.inl (Nat.le_refl _))
      have hz31 := ho27.size
      refine ⟨hx30, ?_⟩
      refine t_end ?_
      have hz32 := hx30.size
      replace hN := hN.ext hx30
      replace hT := hT.ext hx30
      replace hE := hE.step hx30 (.inl (Nat.le_refl _))
      replace hb2 := hb2.ext hx30
      replace hC := hC.ext hx30
      replace hO := hO.ext hx30
      replace hlp0 := hlp0.step hx30 (.inl (Nat.le_refl _))
      have hrhO := hO.rng
      refine sd (d_app (xs := [(el t (k : Int) - el t (f : Int) + N.p).tmod N.p]) hO sl22 infoz3 (by decide) rfl rfl rfl rfl (hbl29) (fun _ => rfl) (by simp; unfold maxLen; omega) (by simp; omega) (by omega) (by omega) ?_)
      intro ao1 co1 w33 ho34 hO'
      have hs35 := ho34.size
      clear hO; have hO := hO'; clear hO'
      have hz38 := ho34.size
      replace hN := hN.out ho34 (by first | omega | (simp only [blk_some, hi1_some] at *; omega))
      replace hT := hT.out ho34 (by first | omega | (simp only [blk_some, hi1_some] at *; omega))
      replace hE := hE.step ho34 (by first | omega | (simp only [blk_some, hi1_some] at *; omega))
      replace hb2 := hb2.out ho34 (by first | omega | (simp only [blk_some, hi1_some] at *; omega))
      replace hC := hC.out ho34 (by first | omega | (simp only [blk_some, hi1_some] at *; omega))
      replace hlp0 := hlp0.step ho34 (by first | omega | (simp only [blk_some, hi1_some] at *; omega))
      refine st (asS rfl) ?_
      refine rg_end ?_
      refine n_blk ?_
      refine n_then ?_
      refine rg ?_
      refine st (y_add rfl rfl (by omega)) ?_
      refine st (mvI rfl) ?_
      refine rg_end ?_
      exact n_then ⟨(k + 1, _, _, _), _, rfl, same_lk rfl (same_hav rfl (same_lk rfl (same_h0))), ⟨rfl, rfl, trivial⟩, ⟨hlp0, by omega, by rw [tkS (by rw [anch_len]; omega), ← ho, anch_el (by omega) (by omega), ← hfr, rem_anch ht0.1 ht1.2], hO.wide (by omega)⟩, by first | omega | (dsimp only; omega)⟩
  ·
    try simp only [decide_eq_true_eq, decide_eq_false_iff_not, Bool.not_eq_true', Bool.not_eq_false', Bool.and_eq_true, Bool.or_eq_true, Bool.or_eq_false_iff, Bool.cond_true_right, Bool.cond_false_right, Bool.cond_true_left, Bool.cond_false_left, ne_eq, Decidable.not_not, bne_iff_ne, beq_iff_eq, beq_eq_false_iff_ne, Bool.not_true, Bool.not_false] at hc0
    have hfull : (anch N R t).take k = anch N R t := List.take_of_length_le (by rw [anch_len]; omega)
    rw [hfull] at ho
    subst ho
    refine wp_exit ?_
    refine e_then (e_then (e_blk (?_)))
    refine n_then ?_
    refine wp_seq ?_
    refine rg ?_
    refine st (mvS rfl) ?_
    refine st (asS rfl) ?_
    refine rg_end ?_
    refine n_then ?_
    refine wp_ret ?_
    refine ret1 (v := (.slice _ _ _)) Try.results27 rfl ?_
    exact ⟨ao, co, rfl, Sl.wide (Ow.sl hO) (by omega) (by omega), hE⟩

set_option maxHeartbeats 1000000 in
set_option maxRecDepth 100000 in
theorem law17_SearchIsFirst_ok (a0 : Option Addr) (c0 : Nat) (l0 : List Int) (a1 : Option Addr) (c1 : Nat) (l1 : List Int) (w : World) (hL0 : Ints 0 w.heap.size w a0 l0) (hl0 : (l0.length : Int) ≤ 9223372036854775807) (hL1 : Ints 0 w.heap.size w a1 l1) (hl1 : (l1.length : Int) ≤ 9223372036854775807) : Cal Try.prog 8 [.slice a0 l0.length c0, .slice a1 l1.length c1] w (fun v w' => v = .bool true ∧ Ext w w') := by
  have hE : Out 0 0 w w := Out.refl _ _ w
  refine enter Try.func8 rfl Try.ntmps8 rfl ?_
  refine wp_seq ?_
  refine rg ?_
  refine st (asB rfl) ?_
  refine rg_end ?_
  refine n_then ?_
  refine wp_seq ?_
  refine rg ?_
  refine st (mvS rfl) ?_
  refine sc cl23 (keep_Slack_ok _ _ _ _ _ _ hL0 hl0) rfl ?_
  rintro v5 w1 ⟨N, A, rfl, hsm, hN, ho2⟩
  have hok := hsm.1
  obtain ⟨_, gp2, gp9, gev1, gev5, gac8, gmn⟩ := id hsm
  have hz6 := ho2.size
  replace hL0 := hL0.ext ho2
  replace hL1 := hL1.ext ho2
  replace hE := hE.step ho2 (.inl (Nat.le_refl _))
  refine sd (d_allocA zer26 ?_)
  intro b3 w7 hbb3 hs9 ho8 hb3
  have hz10 := ho8.size
  replace hL0 := hL0.ext ho8
  replace hL1 := hL1.ext ho8
  replace hE := hE.step ho8 (.inl (Nat.le_refl _))
  replace hN := hN.ext ho8
  refine sd0 (d_stN hb3 rfl rfl sz26 rfl rfl ?_)
  intro w11 hs13 ho12 hb3'
  clear hb3; have hb3 := hb3'; clear hb3'
  have hz14 := ho12.size
  replace hL0 := hL0.out ho12 (by first | omega | (simp only [blk_some, hi1_some] at *; omega))
  replace hL1 := hL1.out ho12 (by first | omega | (simp only [blk_some, hi1_some] at *; omega))
  replace hE := hE.step ho12 (by first | omega | (simp only [blk_some, hi1_some] at *; omega))
  replace hN := hN.out ho12 (by first | omega | (simp only [blk_some, hi1_some] at *; omega))
  refine rg_end ?_
  refine n_then ?_
  refine wp_seq ?_
  refine rgD 4 (fun w_ => Ext w11 w_) (fun i => Nat.beq i 3) mixed (by kernel_rfl) ?_
  intro w15 ho16 hs17
  refine ⟨ho16, ?_⟩
  have hx18 := ho16
  refine tn rfl (fun _ hG => y_lbN (hb3.ext hG) agg26 rfl) ?_
  refine tn rfl (fun _ hG => y_lbN (hb3.ext hG) agg26 rfl) ?_
  refine tn rfl (fun _ hG => mvS rfl) ?_
  refine tc rfl cl24 (keep_Times_ok N A _ _ _ _ _ _ _ _ (hN.ext hx18) (hL1.ext hx18) hl1 (by omega) (by omega)) rfl ?_
  rintro v23 w19 ⟨ax, cx, x, rfl, hX, hxl, hxr, ho20⟩
  have hgx : GoodT N x := ⟨hok, hxl, hxr⟩
  obtain ⟨R, hR⟩ := rp_ex hok
  have hx24 := hx18.step ho20 (.inl (Nat.le_refl _))
  have hz25 := ho20.size
  refine ⟨hx24, ?_⟩
  refine t_end ?_
  have hz26 := hx24.size
  replace hL0 := hL0.ext hx24
  replace hL1 := hL1.ext hx24
  replace hE := hE.step hx24 (.inl (Nat.le_refl _))
  replace hN := hN.ext hx24
  replace hb3 := hb3.ext hx24
  refine sc cl27 (law17_anchored_ok N A _ _ x _ _ _ _ R _ hN hX hR hgx) rfl ?_
  rintro v31 w27 ⟨aY, cY, rfl, hY, ho28⟩
  have hz32 := ho28.size
  replace hL0 := hL0.ext ho28
  replace hL1 := hL1.ext ho28
  replace hE := hE.step ho28 (.inl (Nat.le_refl _))
  replace hN := hN.ext ho28
  replace hb3 := hb3.ext ho28
  replace hX := hX.ext ho28
  refine st (asS rfl) ?_
  refine rg_end ?_
  refine n_then ?_
  refine wp_seq ?_
  refine rg ?_
  refine st (y_lbN hb3 agg26 rfl) ?_
  refine sc cl13 (search_Feasible_ok N A _ _ 1048576 _ hN) rfl ?_
  rintro v37 w33 ⟨at1, ct1, rfl, hT1, ho34⟩
  have hz38 := ho34.size
  replace hL0 := hL0.ext ho34
  replace hL1 := hL1.ext ho34
  replace hE := hE.step ho34 (.inl (Nat.le_refl _))
  replace hN := hN.ext ho34
  replace hb3 := hb3.ext ho34
  replace hX := hX.ext ho34
  replace hY := hY.ext ho34
  refine st (mvT rfl) ?_
  refine st (y_ext rfl rfl) ?_
  refine st (y_ext rfl rfl) ?_
  refine st (y_ext rfl rfl) ?_
  refine st (asS rfl) ?_
  refine st (asI rfl) ?_
  refine st (asI rfl) ?_
  refine rg_end ?_
  refine n_then ?_
  refine wp_seq ?_
  refine rg ?_
  refine st (y_lbN hb3 agg26 rfl) ?_
  refine sc cl18 (search_Solve_ok N A _ _ 1048576 _ hN) rfl ?_
  rintro v43 w39 ⟨at2, ct2, rfl, hT2, ho40⟩
  have hz44 := ho40.size
  replace hL0 := hL0.ext ho40
  replace hL1 := hL1.ext ho40
  replace hE := hE.step ho40 (.inl (Nat.le_refl _))
  replace hN := hN.ext ho40
  replace hb3 := hb3.ext ho40
  replace hX := hX.ext ho40
  replace hY := hY.ext ho40
  replace hT1 := hT1.ext ho40
  refine st (mvT rfl) ?_
  refine st (y_ext rfl rfl) ?_
  refine st (y_ext rfl rfl) ?_
  refine st (y_ext rfl rfl) ?_
  refine st (y_ext rfl rfl) ?_
  refine st (asS rfl) ?_
  refine st (asI rfl) ?_
  refine st (asI rfl) ?_
  refine st (asI rfl) ?_
  refine rg_end ?_
  refine n_then ?_
  refine wp_seq ?_
  refine wp_seq ?_
  refine rg ?_
  refine st (y_lbN hb3 agg26 rfl) ?_
  refine sc cl28 (ref17_Feasible_ok N A _ _ 1048576 _ hN) rfl ?_
  rintro v49 w45 ⟨at3, ct3, rfl, hT3, ho46⟩
  have hz50 := ho46.size
  replace hL0 := hL0.ext ho46
  replace hL1 := hL1.ext ho46
  replace hE := hE.step ho46 (.inl (Nat.le_refl _))
  replace hN := hN.ext ho46
  replace hb3 := hb3.ext ho46
  replace hX := hX.ext ho46
  replace hY := hY.ext ho46
  replace hT1 := hT1.ext ho46
  replace hT2 := hT2.ext ho46
  refine st (mvT rfl) ?_
  refine st (y_ext rfl rfl) ?_
  refine st (y_ext rfl rfl) ?_
  refine st (y_ext rfl rfl) ?_
  refine st (asS rfl) ?_
  refine st (asI rfl) ?_
  refine st (asI rfl) ?_
  refine rg_end ?_
  refine n_then ?_
  refine wp_seq ?_
  refine rg ?_
  refine st (mvI rfl) ?_
  refine st (mvI rfl) ?_
  refine st (y_neq rfl rfl) ?_
  refine st (mvB rfl) ?_
  refine stg rfl rfl (decide_eq_false (not_not_intro rfl)) (mvI rfl) ?_
  refine stg rfl rfl (decide_eq_false (not_not_intro rfl)) (mvI rfl) ?_
  refine stg rfl rfl (decide_eq_false (not_not_intro rfl)) (y_neq rfl rfl) ?_
  refine st (y_pickF rfl (decide_eq_false (not_not_intro rfl)) (v := .bool _) rfl) ?_
  refine rg_end ?_
  refine n_then ?_
  refine cnd rfl (fun hc0 => absurd ((decide_eq_false (not_not_intro (small_same hsm).1)).symm.trans hc0) (by decide)) (fun hc0 => ?_)
  refine wp_skip ?_
  refine n_then ?_
  refine wp_seq ?_
  refine wp_seq ?_
  refine rg ?_
  refine st (mvI rfl) ?_
  refine st (y_neq rfl rfl) ?_
  refine st (mvB rfl) ?_
  refine gspL 55 rfl (fun hg51 => ?_) (fun hg51 => ?_)
  ·
    have hg51n := hg51; try simp only [decide_eq_true_eq, decide_eq_false_iff_not, Bool.not_eq_true', Bool.not_eq_false', Bool.and_eq_true, Bool.or_eq_true, Bool.or_eq_false_iff, Bool.cond_true_right, Bool.cond_false_right, Bool.cond_true_left, Bool.cond_false_left, ne_eq, Decidable.not_not, bne_iff_ne, beq_iff_eq, beq_eq_false_iff_ne, Bool.not_true, Bool.not_false] at hg51n
    refine sts rfl rfl hg51 ?_
    refine sts rfl rfl hg51 ?_
    refine sts rfl rfl hg51 ?_
    refine sts rfl rfl hg51 ?_
    refine st (y_pickT rfl hg51 (v := .bool _) rfl) ?_
    refine rg_end ?_
    refine n_then ?_
    refine cnd rfl (fun hc1 => ?_) (fun hc1 => absurd hc1 (by decide))
    refine wp_seq ?_
    refine rg ?_
    refine sc cl15 (law17_awake_ok _) rfl ?_
    rintro v56 w52 ⟨rfl, ho53⟩
    have hz57 := ho53.size
    replace hL0 := hL0.ext ho53
    replace hL1 := hL1.ext ho53
    replace hE := hE.step ho53 (.inl (Nat.le_refl _))
    replace hN := hN.ext ho53
    replace hb3 := hb3.ext ho53
    replace hX := hX.ext ho53
    replace hY := hY.ext ho53
    replace hT1 := hT1.ext ho53
    replace hT2 := hT2.ext ho53
    replace hT3 := hT3.ext ho53
    refine st (mvB rfl) ?_
    refine stg rfl rfl rfl (mvI rfl) ?_
    refine stg rfl rfl rfl (y_eql rfl rfl) ?_
    refine stg rfl rfl rfl (mvB rfl) ?_
    refine gspL 65 rfl (fun hg58 => ?_) (fun hg58 => ?_)
    ·
      have hg58n := hg58; try simp only [decide_eq_true_eq, decide_eq_false_iff_not, Bool.not_eq_true', Bool.not_eq_false', Bool.and_eq_true, Bool.or_eq_true, Bool.or_eq_false_iff, Bool.cond_true_right, Bool.cond_false_right, Bool.cond_true_left, Bool.cond_false_left, ne_eq, Decidable.not_not, bne_iff_ne, beq_iff_eq, beq_eq_false_iff_ne, Bool.not_true, Bool.not_false] at hg58n
      refine sts rfl rfl hg58 ?_
      refine sts rfl rfl hg58 ?_
      refine stg rfl rfl rfl (y_pickT rfl hg58 (v := .bool _) rfl) ?_
      refine st (y_pickT rfl rfl (v := .bool _) rfl) ?_
      refine st (asB rfl) ?_
      refine rg_end ?_
      refine n_then ?_
      refine wp_ret ?_
      refine r_then (ret1 (v := (.bool _)) Try.results8 rfl ?_)
      first
        | exact ⟨rfl, hE⟩
        | exact ⟨vb (by simp only [decide_eq_true_eq, iff_true]; have := (small_bud hsm false).er; omega), hE⟩
    ·
      have hg58n := hg58; try simp only [decide_eq_true_eq, decide_eq_false_iff_not, Bool.not_eq_true', Bool.not_eq_false', Bool.and_eq_true, Bool.or_eq_true, Bool.or_eq_false_iff, Bool.cond_true_right, Bool.cond_false_right, Bool.cond_true_left, Bool.cond_false_left, ne_eq, Decidable.not_not, bne_iff_ne, beq_iff_eq, beq_eq_false_iff_ne, Bool.not_true, Bool.not_false] at hg58n
      refine stg rfl rfl hg58 (mvI rfl) ?_
      refine stg rfl rfl hg58 (y_eql rfl rfl) ?_
      refine stg rfl rfl rfl (y_pickF rfl hg58 (v := .bool _) rfl) ?_
      refine st (y_pickT rfl rfl (v := .bool _) rfl) ?_
      refine st (asB rfl) ?_
      refine rg_end ?_
      refine n_then ?_
      refine wp_ret ?_
      refine r_then (ret1 (v := (.bool _)) Try.results8 rfl ?_)
      first
        | exact ⟨rfl, hE⟩
        | exact ⟨vb (by simp only [decide_eq_true_eq, iff_true]; have := (small_bud hsm false).er; omega), hE⟩
  ·
    have hg51n := hg51; try simp only [decide_eq_true_eq, decide_eq_false_iff_not, Bool.not_eq_true', Bool.not_eq_false', Bool.and_eq_true, Bool.or_eq_true, Bool.or_eq_false_iff, Bool.cond_true_right, Bool.cond_false_right, Bool.cond_true_left, Bool.cond_false_left, ne_eq, Decidable.not_not, bne_iff_ne, beq_iff_eq, beq_eq_false_iff_ne, Bool.not_true, Bool.not_false] at hg51n
    refine stg rfl rfl hg51 (y_lbN hb3 agg26 rfl) ?_
    refine stg rfl rfl hg51 (mvS rfl) ?_
    refine scg rfl rfl hg51 cl25 (ref11_Feasible_ok N A _ _ (anch N R x) _ _ _ _ _ hN hY) rfl ?_
    rintro v63 w59 ⟨rfl, ho60⟩
    have hz64 := ho60.size
    replace hL0 := hL0.ext ho60
    replace hL1 := hL1.ext ho60
    replace hE := hE.step ho60 (.inl (Nat.le_refl _))
    replace hN := hN.ext ho60
    replace hb3 := hb3.ext ho60
    replace hX := hX.ext ho60
    replace hY := hY.ext ho60
    replace hT1 := hT1.ext ho60
    replace hT2 := hT2.ext ho60
    replace hT3 := hT3.ext ho60
    refine stg rfl rfl hg51 (y_not rfl) ?_
    refine st (y_pickF rfl hg51 (v := .bool _) rfl) ?_
    refine rg_end ?_
    refine n_then ?_
    refine cnd rfl (fun hc1 => ?_) (fun hc1 => ?_)
    ·
      try simp only [decide_eq_true_eq, decide_eq_false_iff_not, Bool.not_eq_true', Bool.not_eq_false', Bool.and_eq_true, Bool.or_eq_true, Bool.or_eq_false_iff, Bool.cond_true_right, Bool.cond_false_right, Bool.cond_true_left, Bool.cond_false_left, ne_eq, Decidable.not_not, bne_iff_ne, beq_iff_eq, beq_eq_false_iff_ne, Bool.not_true, Bool.not_false] at hc1
      refine wp_seq ?_
      refine rg ?_
      refine sc cl15 (law17_awake_ok _) rfl ?_
      rintro v69 w65 ⟨rfl, ho66⟩
      have hz70 := ho66.size
      replace hL0 := hL0.ext ho66
      replace hL1 := hL1.ext ho66
      replace hE := hE.step ho66 (.inl (Nat.le_refl _))
      replace hN := hN.ext ho66
      replace hb3 := hb3.ext ho66
      replace hX := hX.ext ho66
      replace hY := hY.ext ho66
      replace hT1 := hT1.ext ho66
      replace hT2 := hT2.ext ho66
      replace hT3 := hT3.ext ho66
      refine st (mvB rfl) ?_
      refine stg rfl rfl rfl (mvI rfl) ?_
      refine stg rfl rfl rfl (y_eql rfl rfl) ?_
      refine stg rfl rfl rfl (mvB rfl) ?_
      refine gspL 65 rfl (fun hg71 => ?_) (fun hg71 => ?_)
      ·
        have hg71n := hg71; try simp only [decide_eq_true_eq, decide_eq_false_iff_not, Bool.not_eq_true', Bool.not_eq_false', Bool.and_eq_true, Bool.or_eq_true, Bool.or_eq_false_iff, Bool.cond_true_right, Bool.cond_false_right, Bool.cond_true_left, Bool.cond_false_left, ne_eq, Decidable.not_not, bne_iff_ne, beq_iff_eq, beq_eq_false_iff_ne, Bool.not_true, Bool.not_false] at hg71n
        refine sts rfl rfl hg71 ?_
        refine sts rfl rfl hg71 ?_
        refine stg rfl rfl rfl (y_pickT rfl hg71 (v := .bool _) rfl) ?_
        refine st (y_pickT rfl rfl (v := .bool _) rfl) ?_
        refine st (asB rfl) ?_
        refine rg_end ?_
        refine n_then ?_
        refine wp_ret ?_
        refine r_then (ret1 (v := (.bool _)) Try.results8 rfl ?_)
        first
          | exact ⟨rfl, hE⟩
          | exact ⟨vb (by simp only [decide_eq_true_eq, iff_true]; have := (small_bud hsm false).er; omega), hE⟩
      ·
        have hg71n := hg71; try simp only [decide_eq_true_eq, decide_eq_false_iff_not, Bool.not_eq_true', Bool.not_eq_false', Bool.and_eq_true, Bool.or_eq_true, Bool.or_eq_false_iff, Bool.cond_true_right, Bool.cond_false_right, Bool.cond_true_left, Bool.cond_false_left, ne_eq, Decidable.not_not, bne_iff_ne, beq_iff_eq, beq_eq_false_iff_ne, Bool.not_true, Bool.not_false] at hg71n
        refine stg rfl rfl hg71 (mvI rfl) ?_
        refine stg rfl rfl hg71 (y_eql rfl rfl) ?_
        refine stg rfl rfl rfl (y_pickF rfl hg71 (v := .bool _) rfl) ?_
        refine st (y_pickT rfl rfl (v := .bool _) rfl) ?_
        refine st (asB rfl) ?_
        refine rg_end ?_
        refine n_then ?_
        refine wp_ret ?_
        refine r_then (ret1 (v := (.bool _)) Try.results8 rfl ?_)
        first
          | exact ⟨rfl, hE⟩
          | exact ⟨vb (by simp only [decide_eq_true_eq, iff_true]; have := (small_bud hsm false).er; omega), hE⟩
    ·
      try simp only [decide_eq_true_eq, decide_eq_false_iff_not, Bool.not_eq_true', Bool.not_eq_false', Bool.and_eq_true, Bool.or_eq_true, Bool.or_eq_false_iff, Bool.cond_true_right, Bool.cond_false_right, Bool.cond_true_left, Bool.cond_false_left, ne_eq, Decidable.not_not, bne_iff_ne, beq_iff_eq, beq_eq_false_iff_ne, Bool.not_true, Bool.not_false] at hc1
      have hfx : feas N (anch N R x) = true := by simpa using hc1
      have cx := anch_cand2 hR hfx
      have qF : Cand N (findT N false 1048576) ∧ ∀ c, Cand N c → ¬ Lx c (findT N false 1048576) := by
        rcases small_first hsm with h | h
        · exact absurd cx (h.2 _)
        · exact h.2
      have qT : Cand N (findT N true 1048576) ∧ findC N true 1048576 = costN N (findT N true 1048576) ∧ ∀ c, Cand N c → findC N true 1048576 ≤ costN N c ∧ (costN N c = findC N true 1048576 → ¬ Lx c (findT N true 1048576)) := by
        rcases small_best hsm with h | h
        · exact absurd cx (h.2 _)
        · exact h.2
      refine wp_skip ?_
      refine n_then ?_
      refine wp_seq ?_
      refine rg ?_
      refine st (y_lbN hb3 agg26 rfl) ?_
      refine st (mvS rfl) ?_
      refine sc cl26 (ref11_Cost_ok N A _ _ (anch N R x) _ _ _ _ _ hN hY) rfl ?_
      rintro v76 w72 ⟨k, ek, rfl, gk, bk, ho73⟩
      have hk : k = costN N (anch N R x) := (gk (goodT_iff.2 (feas_iff.1 hfx).1)).1.trans (cost_all hok)
      have hck := (qT.2.2 _ cx).1
      have hlf := qF.1.len
      have hlt := qT.1.len
      have hz77 := ho73.size
      replace hL0 := hL0.ext ho73
      replace hL1 := hL1.ext ho73
      replace hE := hE.step ho73 (.inl (Nat.le_refl _))
      replace hN := hN.ext ho73
      replace hb3 := hb3.ext ho73
      replace hX := hX.ext ho73
      replace hY := hY.ext ho73
      replace hT1 := hT1.ext ho73
      replace hT2 := hT2.ext ho73
      replace hT3 := hT3.ext ho73
      refine st (mvT rfl) ?_
      refine st (y_ext rfl rfl) ?_
      refine st (y_ext rfl rfl) ?_
      refine st (asI rfl) ?_
      refine st (asI rfl) ?_
      refine rg_end ?_
      refine n_then ?_
      refine wp_seq ?_
      refine rg ?_
      refine sc cl15 (law17_awake_ok _) rfl ?_
      rintro v82 w78 ⟨rfl, ho79⟩
      have hz83 := ho79.size
      replace hL0 := hL0.ext ho79
      replace hL1 := hL1.ext ho79
      replace hE := hE.step ho79 (.inl (Nat.le_refl _))
      replace hN := hN.ext ho79
      replace hb3 := hb3.ext ho79
      replace hX := hX.ext ho79
      replace hY := hY.ext ho79
      replace hT1 := hT1.ext ho79
      replace hT2 := hT2.ext ho79
      replace hT3 := hT3.ext ho79
      refine st (mvB rfl) ?_
      refine stg rfl rfl rfl (mvS rfl) ?_
      refine stg rfl rfl rfl (mvS rfl) ?_
      refine scg rfl rfl rfl cl29 (law17_less_ok _ _ (anch N R x) _ _ (findT N false 1048576) _ _ _ _ _ hY hT1 (by rw [anch_len, (qF.1).len]) (by rw [anch_len]; omega)) rfl ?_
      rintro v88 w84 ⟨rf, rfl, hrf, ho85⟩
      have rff : rf = false := by
        cases e : rf with
        | false => rfl
        | true => exact absurd (hrf e) (qF.2 _ cx)
      have hz89 := ho85.size
      replace hL0 := hL0.ext ho85
      replace hL1 := hL1.ext ho85
      replace hE := hE.step ho85 (.inl (Nat.le_refl _))
      replace hN := hN.ext ho85
      replace hb3 := hb3.ext ho85
      replace hX := hX.ext ho85
      replace hY := hY.ext ho85
      replace hT1 := hT1.ext ho85
      replace hT2 := hT2.ext ho85
      replace hT3 := hT3.ext ho85
      refine stg rfl rfl rfl (y_not rfl) ?_
      refine st (y_pickT rfl rfl (v := .bool _) rfl) ?_
      refine st (mvB rfl) ?_
      refine stg rfl rfl (congrArg Bool.not rff) (mvI rfl) ?_
      refine stg rfl rfl (congrArg Bool.not rff) (mvI rfl) ?_
      refine stg rfl rfl (congrArg Bool.not rff) (y_gtr rfl rfl) ?_
      refine stg rfl rfl (congrArg Bool.not rff) (mvB rfl) ?_
      refine gspL 87 rfl (fun hg90 => ?_) (fun hg90 => ?_)
      ·
        have hg90n := hg90; try simp only [decide_eq_true_eq, decide_eq_false_iff_not, Bool.not_eq_true', Bool.not_eq_false', Bool.and_eq_true, Bool.or_eq_true, Bool.or_eq_false_iff, Bool.cond_true_right, Bool.cond_false_right, Bool.cond_true_left, Bool.cond_false_left, ne_eq, Decidable.not_not, bne_iff_ne, beq_iff_eq, beq_eq_false_iff_ne, Bool.not_true, Bool.not_false] at hg90n
        refine sts rfl rfl hg90 ?_
        refine sts rfl rfl hg90 ?_
        refine sts rfl rfl hg90 ?_
        refine sts rfl rfl hg90 ?_
        refine stu rfl rfl ?_
        refine stu rfl rfl ?_
        refine stu rfl rfl ?_
        refine stu rfl rfl ?_
        refine sts rfl rfl hg90 ?_
        refine stg rfl rfl (congrArg Bool.not rff) (y_pickT rfl hg90 (v := .bool _) rfl) ?_
        refine st (y_pickT rfl (congrArg Bool.not rff) (v := .bool _) rfl) ?_
        refine st (mvB rfl) ?_
        refine stg rfl rfl rfl (y_lbN hb3 agg26 rfl) ?_
        refine stg rfl rfl rfl (mvS rfl) ?_
        refine scg rfl rfl rfl cl27 (law17_anchored_ok N A _ _ (findT N false 1048576) _ _ _ _ R _ hN hT1 hR (qF.1.good hok)) rfl ?_
        rintro v95 w91 ⟨aZ, cZ, rfl, hZ, ho92⟩
        have hz96 := ho92.size
        replace hL0 := hL0.ext ho92
        replace hL1 := hL1.ext ho92
        replace hE := hE.step ho92 (.inl (Nat.le_refl _))
        replace hN := hN.ext ho92
        replace hb3 := hb3.ext ho92
        replace hX := hX.ext ho92
        replace hY := hY.ext ho92
        replace hT1 := hT1.ext ho92
        replace hT2 := hT2.ext ho92
        replace hT3 := hT3.ext ho92
        refine stg rfl rfl rfl (mvS rfl) ?_
        refine scg rfl rfl rfl cl20 (keep_Same_int_ok _ _ _ _ _ _ _ _ _ _ _ hZ hT1 (by rw [anch_len]; omega)) rfl ?_
        rintro v101 w97 ⟨rfl, ho98⟩
        have hz102 := ho98.size
        replace hL0 := hL0.ext ho98
        replace hL1 := hL1.ext ho98
        replace hE := hE.step ho98 (.inl (Nat.le_refl _))
        replace hN := hN.ext ho98
        replace hb3 := hb3.ext ho98
        replace hX := hX.ext ho98
        replace hY := hY.ext ho98
        replace hT1 := hT1.ext ho98
        replace hT2 := hT2.ext ho98
        replace hT3 := hT3.ext ho98
        replace hZ := hZ.ext ho98
        refine st (y_pickT rfl rfl (v := .bool _) rfl) ?_
        refine st (mvB rfl) ?_
        refine stg rfl rfl (decide_eq_true (cand_anch hok hR qF.1)) (y_lbN hb3 agg26 rfl) ?_
        refine stg rfl rfl (decide_eq_true (cand_anch hok hR qF.1)) (mvS rfl) ?_
        refine scg rfl rfl (decide_eq_true (cand_anch hok hR qF.1)) cl27 (law17_anchored_ok N A _ _ (findT N true 1048576) _ _ _ _ R _ hN hT2 hR (qT.1.good hok)) rfl ?_
        rintro v107 w103 ⟨aU, cU, rfl, hU, ho104⟩
        have hz108 := ho104.size
        replace hL0 := hL0.ext ho104
        replace hL1 := hL1.ext ho104
        replace hE := hE.step ho104 (.inl (Nat.le_refl _))
        replace hN := hN.ext ho104
        replace hb3 := hb3.ext ho104
        replace hX := hX.ext ho104
        replace hY := hY.ext ho104
        replace hT1 := hT1.ext ho104
        replace hT2 := hT2.ext ho104
        replace hT3 := hT3.ext ho104
        replace hZ := hZ.ext ho104
        refine stg rfl rfl (decide_eq_true (cand_anch hok hR qF.1)) (mvS rfl) ?_
        refine scg rfl rfl (decide_eq_true (cand_anch hok hR qF.1)) cl20 (keep_Same_int_ok _ _ _ _ _ _ _ _ _ _ _ hU hT2 (by rw [anch_len]; omega)) rfl ?_
        rintro v113 w109 ⟨rfl, ho110⟩
        have hz114 := ho110.size
        replace hL0 := hL0.ext ho110
        replace hL1 := hL1.ext ho110
        replace hE := hE.step ho110 (.inl (Nat.le_refl _))
        replace hN := hN.ext ho110
        replace hb3 := hb3.ext ho110
        replace hX := hX.ext ho110
        replace hY := hY.ext ho110
        replace hT1 := hT1.ext ho110
        replace hT2 := hT2.ext ho110
        replace hT3 := hT3.ext ho110
        replace hZ := hZ.ext ho110
        replace hU := hU.ext ho110
        refine st (y_pickT rfl (decide_eq_true (cand_anch hok hR qF.1)) (v := .bool _) rfl) ?_
        refine st (asB rfl) ?_
        refine rg_end ?_
        refine n_then ?_
        refine wp_ret ?_
        refine ret1 (v := (.bool _)) Try.results8 rfl ?_
        exact ⟨vb (by simp [cand_anch hok hR qT.1]), hE⟩
      ·
        have hg90n := hg90; try simp only [decide_eq_true_eq, decide_eq_false_iff_not, Bool.not_eq_true', Bool.not_eq_false', Bool.and_eq_true, Bool.or_eq_true, Bool.or_eq_false_iff, Bool.cond_true_right, Bool.cond_false_right, Bool.cond_true_left, Bool.cond_false_left, ne_eq, Decidable.not_not, bne_iff_ne, beq_iff_eq, beq_eq_false_iff_ne, Bool.not_true, Bool.not_false] at hg90n
        refine stg rfl rfl hg90 (mvI rfl) ?_
        refine stg rfl rfl hg90 (mvI rfl) ?_
        refine stg rfl rfl hg90 (y_eql rfl rfl) ?_
        refine stg rfl rfl hg90 (mvB rfl) ?_
        refine stg rfl rfl (decide_eq_true (by omega)) (mvS rfl) ?_
        refine stg rfl rfl (decide_eq_true (by omega)) (mvS rfl) ?_
        refine scg rfl rfl (decide_eq_true (by omega)) cl29 (law17_less_ok _ _ (anch N R x) _ _ (findT N true 1048576) _ _ _ _ _ hY hT2 (by rw [anch_len, (qT.1).len]) (by rw [anch_len]; omega)) rfl ?_
        rintro v119 w115 ⟨rt, rfl, hrt, ho116⟩
        have rtf : rt = false := by
          cases e : rt with
          | false => rfl
          | true => exact absurd (hrt e) ((qT.2.2 _ cx).2 (by omega))
        have hz120 := ho116.size
        replace hL0 := hL0.ext ho116
        replace hL1 := hL1.ext ho116
        replace hE := hE.step ho116 (.inl (Nat.le_refl _))
        replace hN := hN.ext ho116
        replace hb3 := hb3.ext ho116
        replace hX := hX.ext ho116
        replace hY := hY.ext ho116
        replace hT1 := hT1.ext ho116
        replace hT2 := hT2.ext ho116
        replace hT3 := hT3.ext ho116
        refine stg rfl rfl (decide_eq_true (by omega)) (y_not rfl) ?_
        refine stg rfl rfl hg90 (y_pickT rfl (decide_eq_true (by omega)) (v := .bool _) rfl) ?_
        refine stg rfl rfl (congrArg Bool.not rff) (y_pickF rfl hg90 (v := .bool _) rfl) ?_
        refine st (y_pickT rfl (congrArg Bool.not rff) (v := .bool _) rfl) ?_
        refine st (mvB rfl) ?_
        refine stg rfl rfl (congrArg Bool.not rtf) (y_lbN hb3 agg26 rfl) ?_
        refine stg rfl rfl (congrArg Bool.not rtf) (mvS rfl) ?_
        refine scg rfl rfl (congrArg Bool.not rtf) cl27 (law17_anchored_ok N A _ _ (findT N false 1048576) _ _ _ _ R _ hN hT1 hR (qF.1.good hok)) rfl ?_
        rintro v125 w121 ⟨aZ, cZ, rfl, hZ, ho122⟩
        have hz126 := ho122.size
        replace hL0 := hL0.ext ho122
        replace hL1 := hL1.ext ho122
        replace hE := hE.step ho122 (.inl (Nat.le_refl _))
        replace hN := hN.ext ho122
        replace hb3 := hb3.ext ho122
        replace hX := hX.ext ho122
        replace hY := hY.ext ho122
        replace hT1 := hT1.ext ho122
        replace hT2 := hT2.ext ho122
        replace hT3 := hT3.ext ho122
        refine stg rfl rfl (congrArg Bool.not rtf) (mvS rfl) ?_
        refine scg rfl rfl (congrArg Bool.not rtf) cl20 (keep_Same_int_ok _ _ _ _ _ _ _ _ _ _ _ hZ hT1 (by rw [anch_len]; omega)) rfl ?_
        rintro v131 w127 ⟨rfl, ho128⟩
        have hz132 := ho128.size
        replace hL0 := hL0.ext ho128
        replace hL1 := hL1.ext ho128
        replace hE := hE.step ho128 (.inl (Nat.le_refl _))
        replace hN := hN.ext ho128
        replace hb3 := hb3.ext ho128
        replace hX := hX.ext ho128
        replace hY := hY.ext ho128
        replace hT1 := hT1.ext ho128
        replace hT2 := hT2.ext ho128
        replace hT3 := hT3.ext ho128
        replace hZ := hZ.ext ho128
        refine st (y_pickT rfl (congrArg Bool.not rtf) (v := .bool _) rfl) ?_
        refine st (mvB rfl) ?_
        refine stg rfl rfl (decide_eq_true (cand_anch hok hR qF.1)) (y_lbN hb3 agg26 rfl) ?_
        refine stg rfl rfl (decide_eq_true (cand_anch hok hR qF.1)) (mvS rfl) ?_
        refine scg rfl rfl (decide_eq_true (cand_anch hok hR qF.1)) cl27 (law17_anchored_ok N A _ _ (findT N true 1048576) _ _ _ _ R _ hN hT2 hR (qT.1.good hok)) rfl ?_
        rintro v137 w133 ⟨aU, cU, rfl, hU, ho134⟩
        have hz138 := ho134.size
        replace hL0 := hL0.ext ho134
        replace hL1 := hL1.ext ho134
        replace hE := hE.step ho134 (.inl (Nat.le_refl _))
        replace hN := hN.ext ho134
        replace hb3 := hb3.ext ho134
        replace hX := hX.ext ho134
        replace hY := hY.ext ho134
        replace hT1 := hT1.ext ho134
        replace hT2 := hT2.ext ho134
        replace hT3 := hT3.ext ho134
        replace hZ := hZ.ext ho134
        refine stg rfl rfl (decide_eq_true (cand_anch hok hR qF.1)) (mvS rfl) ?_
        refine scg rfl rfl (decide_eq_true (cand_anch hok hR qF.1)) cl20 (keep_Same_int_ok _ _ _ _ _ _ _ _ _ _ _ hU hT2 (by rw [anch_len]; omega)) rfl ?_
        rintro v143 w139 ⟨rfl, ho140⟩
        have hz144 := ho140.size
        replace hL0 := hL0.ext ho140
        replace hL1 := hL1.ext ho140
        replace hE := hE.step ho140 (.inl (Nat.le_refl _))
        replace hN := hN.ext ho140
        replace hb3 := hb3.ext ho140
        replace hX := hX.ext ho140
        replace hY := hY.ext ho140
        replace hT1 := hT1.ext ho140
        replace hT2 := hT2.ext ho140
        replace hT3 := hT3.ext ho140
        replace hZ := hZ.ext ho140
        replace hU := hU.ext ho140
        refine st (y_pickT rfl (decide_eq_true (cand_anch hok hR qF.1)) (v := .bool _) rfl) ?_
        refine st (asB rfl) ?_
        refine rg_end ?_
        refine n_then ?_
        refine wp_ret ?_
        refine ret1 (v := (.bool _)) Try.results8 rfl ?_
        exact ⟨vb (by simp [cand_anch hok hR qT.1]), hE⟩
end Go.Proofs.Ytdbiapbdmmkfjaa
