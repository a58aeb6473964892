/-
  Walks of the functions, printed by a program out of the code and the loops' relations.
-/
import Derived.Test.YtggaekjnpbicnaaWkD
import Derived.Test.YtggaekjnpbicnaaProg
import Derived.KernelRfl
import Derived.Test.YtggaekjnpbicnaaFlat
import Derived.Test.YtggaekjnpbicnaaB3
namespace Go.Proofs.Ytggaekjnpbicnaa
open Go.Wk Go.RowKit
set_option linter.unusedVariables false
set_option linter.unusedSimpArgs false
set_option maxRecDepth 100000 in
theorem ref19_in_ok (n lo hi : Int) (w : World) : Cal Try.prog 44 [.int .i64 n, .int .i64 lo, .int .i64 hi] w (fun v w' => v = .bool (decide (lo ≤ n ∧ n ≤ hi)) ∧ Ext w w') := by
  have hE : Out 0 0 w w := Out.refl _ _ w
  refine enter Try.func44 rfl Try.ntmps44 rfl ?_
  refine wp_seq ?_
  refine rg ?_
  refine st (asB rfl) ?_
  refine rg_end ?_
  refine n_then ?_
  refine wp_seq ?_
  refine rg ?_
  refine st (mvI rfl) ?_
  refine st (mvI rfl) ?_
  refine st (y_geq rfl rfl) ?_
  refine st (mvB rfl) ?_
  refine gspL 10 rfl (fun hg1 => ?_) (fun hg1 => ?_)
  ·
    have hg1n := hg1; try simp only [decide_eq_true_eq, decide_eq_false_iff_not, Bool.not_eq_true', Bool.not_eq_false', Bool.and_eq_true, Bool.or_eq_true, Bool.or_eq_false_iff, Bool.cond_true_right, Bool.cond_false_right, Bool.cond_true_left, Bool.cond_false_left, ne_eq, Decidable.not_not, bne_iff_ne, beq_iff_eq, beq_eq_false_iff_ne, Bool.not_true, Bool.not_false] at hg1n
    refine stg rfl rfl hg1 (mvI rfl) ?_
    refine stg rfl rfl hg1 (mvI rfl) ?_
    refine stg rfl rfl hg1 (y_leq rfl rfl) ?_
    refine st (y_pickT rfl hg1 (v := .bool _) rfl) ?_
    refine st (asB rfl) ?_
    refine rg_end ?_
    refine n_then ?_
    refine wp_ret ?_
    refine ret1 (v := (.bool _)) Try.results44 rfl ?_
    exact ⟨vb (by simp only [decide_eq_true_eq, decide_eq_false_iff_not, Bool.not_eq_true', Bool.not_eq_eq_eq_not, Bool.not_true, Bool.false_eq_true, false_iff, true_iff, iff_true, iff_false]; omega), hE⟩
  ·
    have hg1n := hg1; try simp only [decide_eq_true_eq, decide_eq_false_iff_not, Bool.not_eq_true', Bool.not_eq_false', Bool.and_eq_true, Bool.or_eq_true, Bool.or_eq_false_iff, Bool.cond_true_right, Bool.cond_false_right, Bool.cond_true_left, Bool.cond_false_left, ne_eq, Decidable.not_not, bne_iff_ne, beq_iff_eq, beq_eq_false_iff_ne, Bool.not_true, Bool.not_false] at hg1n
    refine sts rfl rfl hg1 ?_
    refine sts rfl rfl hg1 ?_
    refine sts rfl rfl hg1 ?_
    refine st (y_pickF rfl hg1 (v := .bool _) rfl) ?_
    refine st (asB rfl) ?_
    refine rg_end ?_
    refine n_then ?_
    refine wp_ret ?_
    refine ret1 (v := (.bool _)) Try.results44 rfl ?_
    exact ⟨vb (by simp only [decide_eq_true_eq, decide_eq_false_iff_not, Bool.not_eq_true', Bool.not_eq_eq_eq_not, Bool.not_true, Bool.false_eq_true, false_iff, true_iff, iff_true, iff_false]; omega), hE⟩

set_option maxHeartbeats 2000000 in
set_option maxRecDepth 100000 in
theorem ref19_distances_ok (N : Net) (A : NetA) (lo hi : Nat) (t : List Int) (at_ : Option Addr) (ct : Nat) (lt ht : Nat) (w : World) (hN : NetIn lo hi w N A) (hT : Ints lt ht w at_ t) (hg : GoodT N t) : Cal Try.prog 45 [netV N A, .slice at_ t.length ct] w (fun v w' => ∃ ad c d M, v = .slice ad d.length c ∧ Ints w.heap.size w'.heap.size w' ad d ∧ FlatM N.evs.length d M ∧ DistOk N t N.evs.length M ∧ (∀ i j : Int, 0 ≤ i → i < N.evs.length → 0 ≤ j → j < N.evs.length → M i j = -1 ∨ (0 ≤ M i j ∧ M i j ≤ 352800)) ∧ Ext w w') := by
  replace hN := hN.full
  replace hT := Ints.full hT
  have hnev := hg.ok.ev
  have hnac := hg.ok.ac
  have htl := hg.len
  have hsq := flat_sq hnev
  have hsq0 : 0 ≤ (N.evs.length : Int) * N.evs.length := Int.mul_nonneg (by omega) (by omega)
  have hp2 := hg.ok.p2
  have hp7 := hg.ok.p7
  have hcast : ((N.evs.length * N.evs.length : Nat) : Int) = (N.evs.length : Int) * N.evs.length := by simp
  have hsqn : N.evs.length * N.evs.length ≤ 2304 := by omega
  have hE : Out 0 0 w w := Out.refl _ _ w
  refine enter Try.func45 rfl Try.ntmps45 rfl ?_
  refine wp_seq ?_
  refine rg ?_
  refine sd (d_boxA rfl ?_)
  intro bl4 w1 hbbl4 hs3 ho2 hbl4
  have hz5 := ho2.size
  replace hN := hN.ext ho2
  replace hT := hT.ext ho2
  replace hE := hE.step ho2 (.inl (Nat.le_refl _))
  refine st (asS rfl) ?_
  refine rg_end ?_
  refine n_then ?_
  refine wp_seq ?_
  refine rg ?_
  refine st (y_fld fld26_1 rfl) ?_
  refine st (y_lb hbl4 na23 rfl rfl) ?_
  refine st (y_len Try.underlying23 rfl) ?_
  refine st (asI rfl) ?_
  refine rg_end ?_
  refine n_then ?_
  refine wp_seq ?_
  refine rg ?_
  refine st (mvI rfl) ?_
  refine st (mvI rfl) ?_
  refine st (y_mul rfl rfl (by omega)) ?_
  refine sd (d_make (m := N.evs.length * N.evs.length) (lo := w.heap.size) (enc := encI) (e0 := (0 : Int)) sl22 info3 (fun _ => rfl) rfl rfl rfl (by omega) (by unfold maxLen; omega) (by omega) ?_)
  intro bd w6 hbbd hs8 ho7 hd
  have hz10 := ho7.size
  replace hN := hN.ext ho7
  replace hT := hT.ext ho7
  replace hE := hE.step ho7 (.inl (Nat.le_refl _))
  replace hbl4 := hbl4.ext ho7
  have hd0 := hd.rng
  refine st (asS rfl) ?_
  refine rg_end ?_
  refine n_then ?_
  refine wp_seq ?_
  refine wp_seq ?_
  refine rg ?_
  refine st (mvS rfl) ?_
  refine st (y_len Try.underlying22 rfl) ?_
  refine st (mvI rfl) ?_
  refine rg_end ?_
  refine n_then ?_
  refine wp_block ?_
  refine lp (γ := Nat × List Int) [7, 22, 23, 24, 25, 26, 27, 28] (fun ⟨q, d⟩ => [(22, .int .i64 (q : Int))]) (fun ⟨q, d⟩ w_ => Out bd (bd + 1) w6 w_ ∧ (q : Int) ≤ (N.evs.length : Int) * N.evs.length ∧ d.length = N.evs.length * N.evs.length ∧ (∀ p : Nat, p < q → el d p = 1152921504606846976) ∧ Ow 3 encI 1 w.heap.size (bd + 1) w_ (some ⟨bd, 0, none⟩) (N.evs.length * N.evs.length) d) (fun ⟨q, d⟩ => N.evs.length * N.evs.length - q) (0, List.replicate (N.evs.length * N.evs.length) 0) ⟨rfl, trivial⟩ ⟨Out.refl _ _ _, by omega, List.length_replicate, fun p hp => by omega, hd⟩ ?_
  rintro ⟨q, d⟩ hav_ w11 ⟨ho12, hq, hdl, hd1, hd⟩
  have hlp0 := ho12
  have hz13 := ho12.size
  replace hN := hN.out ho12 (by first | omega | (simp only [blk_some, hi1_some] at *; omega))
  replace hT := hT.out ho12 (by first | omega | (simp only [blk_some, hi1_some] at *; omega))
  replace hE := hE.step ho12 (by first | omega | (simp only [blk_some, hi1_some] at *; omega))
  replace hbl4 := hbl4.out ho12 (by first | omega | (simp only [blk_some, hi1_some] at *; omega))
  refine wp_seq ?_
  refine rg ?_
  refine st (y_lss rfl rfl) ?_
  refine rg_end ?_
  refine n_then ?_
  refine wp_seq ?_
  refine cnd rfl (fun hc0 => ?_) (fun hc0 => ?_)
  ·
    try simp only [decide_eq_true_eq, decide_eq_false_iff_not, Bool.not_eq_true', Bool.not_eq_false', Bool.and_eq_true, Bool.or_eq_true, Bool.or_eq_false_iff, Bool.cond_true_right, Bool.cond_false_right, Bool.cond_true_left, Bool.cond_false_left, ne_eq, Decidable.not_not, bne_iff_ne, beq_iff_eq, beq_eq_false_iff_ne, Bool.not_true, Bool.not_false] at hc0
    refine wp_skip ?_
    refine n_then ?_
    refine wp_seq ?_
    refine wp_block ?_
    refine wp_seq ?_
    refine rg ?_
    refine st (mvI rfl) ?_
    refine st (asI rfl) ?_
    refine rg_end ?_
    refine n_then ?_
    refine rg ?_
    refine st (mvS rfl) ?_
    refine st (mvI rfl) ?_
    refine st (y_ix hd.sl sl22 rfl (hdl.symm) rfl (by omega) (by omega)) ?_
    refine sd0 (d_se (j := 0)  hd sz3 rfl rfl rfl (by omega) (by omega) (Nat.le_of_ble_eq_true rfl) rfl ?_)
    intro w14 hs16 ho15 hd'
    have hrhd := hd.rng
    clear hd; have hd := hd'; clear hd'
    have hz17 := ho15.size
    replace hN := hN.out ho15 (by first | omega | (simp only [blk_some, hi1_some] at *; omega))
    replace hT := hT.out ho15 (by first | omega | (simp only [blk_some, hi1_some] at *; omega))
    replace hE := hE.step ho15 (by first | omega | (simp only [blk_some, hi1_some] at *; omega))
    replace hbl4 := hbl4.out ho15 (by first | omega | (simp only [blk_some, hi1_some] at *; omega))
    replace hlp0 := hlp0.step ho15 (by first | omega | (simp only [blk_some, hi1_some] at *; omega))
    refine rg_end ?_
    refine n_blk ?_
    refine n_then ?_
    refine rg ?_
    refine st (y_add rfl rfl (by omega)) ?_
    refine st (mvI rfl) ?_
    refine rg_end ?_
    exact n_then ⟨(q + 1, _), _, rfl, same_lk rfl (same_h0), ⟨rfl, trivial⟩, ⟨hlp0, by omega, by simp [hdl], set_upto' hdl (by omega) hd1, hd⟩, by first | omega | (dsimp only; omega)⟩
  ·
    try simp only [decide_eq_true_eq, decide_eq_false_iff_not, Bool.not_eq_true', Bool.not_eq_false', Bool.and_eq_true, Bool.or_eq_true, Bool.or_eq_false_iff, Bool.cond_true_right, Bool.cond_false_right, Bool.cond_true_left, Bool.cond_false_left, ne_eq, Decidable.not_not, bne_iff_ne, beq_iff_eq, beq_eq_false_iff_ne, Bool.not_true, Bool.not_false] at hc0
    have hfl := FlatM.rep (n := N.evs.length) hdl (fun q hq => hd1 q (by omega))
    refine wp_exit ?_
    refine e_then (e_then (e_blk (?_)))
    refine n_then ?_
    refine wp_seq ?_
    refine wp_seq ?_
    refine rg ?_
    refine st (y_fld fld26_2 rfl) ?_
    refine st (y_lb hbl4 na24 rfl rfl) ?_
    refine st (y_len Try.underlying24 rfl) ?_
    refine st (mvI rfl) ?_
    refine rg_end ?_
    refine n_then ?_
    refine wp_block ?_
    refine lp (γ := Nat × List Int × (Int → Int → Int)) [8, 9, 32, 33, 34, 35, 36, 37, 38, 39, 40, 41, 42, 43, 44, 45, 46, 47, 48, 49, 50, 51, 52, 53, 54, 55, 56, 57, 58, 59, 60, 61, 62, 63, 64, 65, 66, 67, 68, 69, 70] (fun ⟨q, d, M⟩ => [(32, .int .i64 (q : Int))]) (fun ⟨q, d, M⟩ w_ => Out bd (bd + 1) w11 w_ ∧ (q : Int) ≤ N.acts.length ∧ FlatM N.evs.length d M ∧ EdgeOk N t N.evs.length q M ∧ FinOk N N.evs.length 0 M ∧ Ow 3 encI 1 w.heap.size (bd + 1) w_ (some ⟨bd, 0, none⟩) (N.evs.length * N.evs.length) d) (fun ⟨q, d, M⟩ => N.acts.length - q) (0, _, fun _ _ => -1) ⟨rfl, trivial⟩ ⟨Out.refl _ _ _, by omega, hfl, ⟨fun _ _ _ _ _ _ => .inl rfl, fun a ha => by simp at ha⟩, FinOk.none, hd⟩ ?_
    rintro ⟨q, d, M⟩ hav_ w18 ⟨ho19, hq, hfl, hed, hfin, hd⟩
    have hlp1 := ho19
    have hz20 := ho19.size
    replace hN := hN.out ho19 (by first | omega | (simp only [blk_some, hi1_some] at *; omega))
    replace hT := hT.out ho19 (by first | omega | (simp only [blk_some, hi1_some] at *; omega))
    replace hE := hE.step ho19 (by first | omega | (simp only [blk_some, hi1_some] at *; omega))
    replace hbl4 := hbl4.out ho19 (by first | omega | (simp only [blk_some, hi1_some] at *; omega))
    refine wp_seq ?_
    refine rg ?_
    refine st (y_lss rfl rfl) ?_
    refine rg_end ?_
    refine n_then ?_
    refine wp_seq ?_
    refine cnd rfl (fun hc1 => ?_) (fun hc1 => ?_)
    ·
      try simp only [decide_eq_true_eq, decide_eq_false_iff_not, Bool.not_eq_true', Bool.not_eq_false', Bool.and_eq_true, Bool.or_eq_true, Bool.or_eq_false_iff, Bool.cond_true_right, Bool.cond_false_right, Bool.cond_true_left, Bool.cond_false_left, ne_eq, Decidable.not_not, bne_iff_ne, beq_iff_eq, beq_eq_false_iff_ne, Bool.not_true, Bool.not_false] at hc1
      have ham := el_mem (l := N.acts) (i := q) (by omega) hc1
      have ha := hg.ok.acs _ ham
      obtain ⟨f0, f1, t0, t1, hne, hm0, hm1, hm2, hm3, _, _⟩ := hg.ok.acs _ ham
      have hs := slack_rng (N := N) (t := t) (a := el N.acts q) (by omega)
      have hr := flat_rng f0 f1 t0 t1
      have hdl : (d.length : Int) = (N.evs.length : Int) * N.evs.length := by rw [hfl.len]; simp
      refine wp_skip ?_
      refine n_then ?_
      refine wp_seq ?_
      refine wp_block ?_
      refine wp_seq ?_
      refine rg ?_
      refine st (mvI rfl) ?_
      refine st (asI rfl) ?_
      refine rg_end ?_
      refine n_then ?_
      refine wp_seq ?_
      refine rg ?_
      refine st (y_fld fld26_2 rfl) ?_
      refine st (y_lb hbl4 na24 rfl rfl) ?_
      refine st (mvI rfl) ?_
      refine st (y_ix hN.a sl24 rfl (rfl) rfl (by omega) (by omega)) ?_
      refine st (y_lw hN.a agg40 rfl (by omega) (by omega)) ?_
      refine sd (d_allocA zer40 ?_)
      intro bl24 w21 hbbl24 hs23 ho22 hbl24
      have hz25 := ho22.size
      replace hN := hN.ext ho22
      replace hT := hT.ext ho22
      replace hE := hE.step ho22 (.inl (Nat.le_refl _))
      replace hbl4 := hbl4.ext ho22
      replace hd := hd.ext ho22
      replace hlp1 := hlp1.step ho22 (.inl (Nat.le_refl _))
      refine sd0 (d_stN hbl24 rfl rfl sz40 rfl rfl ?_)
      intro w26 hs28 ho27 hbl24'
      clear hbl24; have hbl24 := hbl24'; clear hbl24'
      have hz29 := ho27.size
      replace hN := hN.out ho27 (by first | omega | (simp only [blk_some, hi1_some] at *; omega))
      replace hT := hT.out ho27 (by first | omega | (simp only [blk_some, hi1_some] at *; omega))
      replace hE := hE.step ho27 (by first | omega | (simp only [blk_some, hi1_some] at *; omega))
      replace hbl4 := hbl4.out ho27 (by first | omega | (simp only [blk_some, hi1_some] at *; omega))
      have hrnhd := hd.rng
      replace hd := hd.out ho27 (by first | omega | (simp only [blk_some, hi1_some] at *; omega))
      replace hlp1 := hlp1.step ho27 (by first | omega | (simp only [blk_some, hi1_some] at *; omega))
      refine rg_end ?_
      refine n_then ?_
      refine wp_seq ?_
      refine rg ?_
      refine st (y_fld fld40_0 rfl) ?_
      refine st (y_lb hbl24 na3 rfl rfl) ?_
      refine st (y_neq rfl rfl) ?_
      refine rg_end ?_
      refine n_then ?_
      refine cnd rfl (fun hc2 => ?_) (fun hc2 => ?_)
      ·
        try simp only [decide_eq_true_eq, decide_eq_false_iff_not, Bool.not_eq_true', Bool.not_eq_false', Bool.and_eq_true, Bool.or_eq_true, Bool.or_eq_false_iff, Bool.cond_true_right, Bool.cond_false_right, Bool.cond_true_left, Bool.cond_false_left, ne_eq, Decidable.not_not, bne_iff_ne, beq_iff_eq, beq_eq_false_iff_ne, Bool.not_true, Bool.not_false] at hc2
        refine rgD 26 (fun w_ => Ext w26 w_) (fun i => Nat.beq i 21) mixed (by kernel_rfl) ?_
        intro w30 ho31 hs32
        refine ⟨ho31, ?_⟩
        have hx33 := ho31
        refine tn rfl (fun _ hG => mvS rfl) ?_
        refine tn rfl (fun _ hG => y_fld fld40_1 rfl) ?_
        refine tn rfl (fun _ hG => y_lb (hbl24.ext hG) na3 rfl rfl) ?_
        refine tn rfl (fun _ hG => mvI rfl) ?_
        refine tn rfl (fun _ hG => y_mul rfl rfl (by omega)) ?_
        refine tn rfl (fun _ hG => y_fld fld40_2 rfl) ?_
        refine tn rfl (fun _ hG => y_lb (hbl24.ext hG) na3 rfl rfl) ?_
        refine tn rfl (fun _ hG => y_add rfl rfl (by omega)) ?_
        refine tn rfl (fun _ hG => mvS rfl) ?_
        refine tn rfl (fun _ hG => y_fld fld40_1 rfl) ?_
        refine tn rfl (fun _ hG => y_lb (hbl24.ext hG) na3 rfl rfl) ?_
        refine tn rfl (fun _ hG => mvI rfl) ?_
        refine tn rfl (fun _ hG => y_mul rfl rfl (by omega)) ?_
        refine tn rfl (fun _ hG => y_fld fld40_2 rfl) ?_
        refine tn rfl (fun _ hG => y_lb (hbl24.ext hG) na3 rfl rfl) ?_
        refine tn rfl (fun _ hG => y_add rfl rfl (by omega)) ?_
        refine tn rfl (fun _ hG => y_ix (hd.ext hG).sl sl22 rfl (hfl.len.symm) rfl (by omega) (by omega)) ?_
        refine tn rfl (fun _ hG => y_le (hd.ext hG).sl na3 rfl (by omega) (by omega) rfl) ?_
        refine tn rfl (fun _ hG => y_lbN (hbl4.ext hG) agg26 rfl) ?_
        refine tn rfl (fun _ hG => mvS rfl) ?_
        refine tn rfl (fun _ hG => y_lbN (hbl24.ext hG) agg40 rfl) ?_
        refine tc rfl cl32 (ref11_Lasts_ok N A _ _ t _ _ _ _ _ _ (hN.ext hx33) (hT.ext hx33) hg ha) rfl ?_
        rintro v38 w34 ⟨rfl, ho35⟩
        have hdu : durA N t (el N.acts q) - (el N.acts q).mn = slackA N t (el N.acts q) := by unfold durA slackA; omega
        have hx39 := hx33.step ho35 (.inl (Nat.le_refl _))
        have hz40 := ho35.size
        refine ⟨hx39, ?_⟩
        refine tn rfl (fun _ hG => y_fld fld40_3 rfl) ?_
        refine tn rfl (fun _ hG => y_lb (hbl24.ext hG) na3 rfl rfl) ?_
        refine tn rfl (fun _ hG => y_sub rfl rfl (by omega)) ?_
        refine tn rfl (fun _ hG => y_min rfl rfl) ?_
        refine t_end ?_
        have hz41 := hx39.size
        replace hN := hN.ext hx39
        replace hT := hT.ext hx39
        replace hE := hE.step hx39 (.inl (Nat.le_refl _))
        replace hbl4 := hbl4.ext hx39
        replace hd := hd.ext hx39
        replace hlp1 := hlp1.step hx39 (.inl (Nat.le_refl _))
        replace hbl24 := hbl24.ext hx39
        refine st (y_ix hd.sl sl22 rfl (hfl.len.symm) rfl (by omega) (by omega)) ?_
        refine sd0 (d_se (j := 0)  hd sz3 rfl rfl rfl (by omega) (by omega) (Nat.le_of_ble_eq_true rfl) rfl ?_)
        intro w42 hs44 ho43 hd'
        have hrhd := hd.rng
        clear hd; have hd := hd'; clear hd'
        have hz45 := ho43.size
        replace hN := hN.out ho43 (by first | omega | (simp only [blk_some, hi1_some] at *; omega))
        replace hT := hT.out ho43 (by first | omega | (simp only [blk_some, hi1_some] at *; omega))
        replace hE := hE.step ho43 (by first | omega | (simp only [blk_some, hi1_some] at *; omega))
        replace hbl4 := hbl4.out ho43 (by first | omega | (simp only [blk_some, hi1_some] at *; omega))
        replace hlp1 := hlp1.step ho43 (by first | omega | (simp only [blk_some, hi1_some] at *; omega))
        replace hbl24 := hbl24.out ho43 (by first | omega | (simp only [blk_some, hi1_some] at *; omega))
        have hsn := hed.snd _ _ f0 f1 t0 t1
        have hed := hed.add (M' := updM M (el N.acts q).fr (el N.acts q).tt _) hg.ok rfl hc1 hc2 (fun x y x0 y0 => rfl)
        have hfin := hfin.add (M' := updM M (el N.acts q).fr (el N.acts q).tt (lessS (M (el N.acts q).fr (el N.acts q).tt) (slackA N t (el N.acts q)))) ham hc2 (fun x y x0 y0 => rfl)
        have hfl := hfl.set (M' := updM M (el N.acts q).fr (el N.acts q).tt (lessS (M (el N.acts q).fr (el N.acts q).tt) (slackA N t (el N.acts q)))) (v := min (el d ((el N.acts q).fr * N.evs.length + (el N.acts q).tt)) (durA N t (el N.acts q) - (el N.acts q).mn)) f0 f1 t0 t1 (by rw [hfl.val _ _ f0 f1 t0 t1, hdu]; exact flatV_less (by omega) (by omega) (by omega)) (fun x y x0 y0 => rfl)
        refine rg_end ?_
        refine n_blk ?_
        refine n_then ?_
        refine rg ?_
        refine st (y_add rfl rfl (by omega)) ?_
        refine st (mvI rfl) ?_
        refine rg_end ?_
        exact n_then ⟨(q + 1, _, _), _, rfl, same_lk rfl (same_h0), ⟨rfl, trivial⟩, ⟨hlp1, by omega, hfl, hed, hfin, hd⟩, by first | omega | (dsimp only; omega)⟩
      ·
        try simp only [decide_eq_true_eq, decide_eq_false_iff_not, Bool.not_eq_true', Bool.not_eq_false', Bool.and_eq_true, Bool.or_eq_true, Bool.or_eq_false_iff, Bool.cond_true_right, Bool.cond_false_right, Bool.cond_true_left, Bool.cond_false_left, ne_eq, Decidable.not_not, bne_iff_ne, beq_iff_eq, beq_eq_false_iff_ne, Bool.not_true, Bool.not_false] at hc2
        have hed := hed.skip hc1 hc2
        refine wp_skip ?_
        refine n_blk ?_
        refine n_then ?_
        refine rg ?_
        refine st (y_add rfl rfl (by omega)) ?_
        refine st (mvI rfl) ?_
        refine rg_end ?_
        exact n_then ⟨(q + 1, _, _), _, rfl, same_lk rfl (same_h0), ⟨rfl, trivial⟩, ⟨hlp1, by omega, hfl, hed, hfin, hd⟩, by first | omega | (dsimp only; omega)⟩
    ·
      try simp only [decide_eq_true_eq, decide_eq_false_iff_not, Bool.not_eq_true', Bool.not_eq_false', Bool.and_eq_true, Bool.or_eq_true, Bool.or_eq_false_iff, Bool.cond_true_right, Bool.cond_false_right, Bool.cond_true_left, Bool.cond_false_left, ne_eq, Decidable.not_not, bne_iff_ne, beq_iff_eq, beq_eq_false_iff_ne, Bool.not_true, Bool.not_false] at hc1
      have hfw := hed.fw (by omega)
      refine wp_exit ?_
      refine e_then (e_then (e_blk (?_)))
      refine n_then ?_
      refine wp_seq ?_
      refine wp_seq ?_
      refine rg ?_
      refine st (asI rfl) ?_
      refine rg_end ?_
      refine n_then ?_
      refine wp_block ?_
      refine lp (γ := Nat × List Int × (Int → Int → Int)) [10, 11, 12, 71, 72, 73, 74, 75, 76, 77, 78, 79, 80, 81, 82, 83, 84, 85, 86, 87, 88, 89, 90, 91, 92, 93, 94, 95, 96, 97, 98, 99, 100, 101, 102, 103, 104, 105, 106, 107, 108, 109, 110, 111, 112, 113, 114, 115, 116, 117, 118, 119, 120, 121, 122, 123, 124, 125, 126, 127, 128, 129, 130, 131, 132, 133, 134, 135, 136, 137, 138] (fun ⟨k, d, M0⟩ => [(10, .int .i64 (k : Int))]) (fun ⟨k, d, M0⟩ w_ => Out bd (bd + 1) w18 w_ ∧ (k : Int) ≤ N.evs.length ∧ FlatM N.evs.length d M0 ∧ FwOk N t N.evs.length k (7200 * 2 ^ k) M0 ∧ FinOk N N.evs.length k M0 ∧ Ow 3 encI 1 w.heap.size (bd + 1) w_ (some ⟨bd, 0, none⟩) (N.evs.length * N.evs.length) d) (fun ⟨k, d, M0⟩ => N.evs.length - k) (0, _, _) ⟨rfl, trivial⟩ ⟨Out.refl _ _ _, by omega, hfl, by simpa using hfw, hfin, hd⟩ ?_
      rintro ⟨k, d, M0⟩ hav_ w46 ⟨ho47, hk, hfl, hfw, hfin, hd⟩
      have hlp2 := ho47
      have hz48 := ho47.size
      replace hN := hN.out ho47 (by first | omega | (simp only [blk_some, hi1_some] at *; omega))
      replace hT := hT.out ho47 (by first | omega | (simp only [blk_some, hi1_some] at *; omega))
      replace hE := hE.step ho47 (by first | omega | (simp only [blk_some, hi1_some] at *; omega))
      replace hbl4 := hbl4.out ho47 (by first | omega | (simp only [blk_some, hi1_some] at *; omega))
      refine wp_seq ?_
      refine wp_seq ?_
      refine rg ?_
      refine st (mvI rfl) ?_
      refine st (mvI rfl) ?_
      refine st (y_lss rfl rfl) ?_
      refine rg_end ?_
      refine n_then ?_
      refine cnd rfl (fun hc3 => ?_) (fun hc3 => ?_)
      ·
        try simp only [decide_eq_true_eq, decide_eq_false_iff_not, Bool.not_eq_true', Bool.not_eq_false', Bool.and_eq_true, Bool.or_eq_true, Bool.or_eq_false_iff, Bool.cond_true_right, Bool.cond_false_right, Bool.cond_true_left, Bool.cond_false_left, ne_eq, Decidable.not_not, bne_iff_ne, beq_iff_eq, beq_eq_false_iff_ne, Bool.not_true, Bool.not_false] at hc3
        refine wp_skip ?_
        refine n_then ?_
        refine wp_seq ?_
        refine wp_block ?_
        refine wp_seq ?_
        refine rg ?_
        refine st (asI rfl) ?_
        refine rg_end ?_
        refine n_then ?_
        refine wp_block ?_
        refine lp (γ := Nat × List Int × (Int → Int → Int)) [11, 12, 76, 77, 78, 79, 80, 81, 82, 83, 84, 85, 86, 87, 88, 89, 90, 91, 92, 93, 94, 95, 96, 97, 98, 99, 100, 101, 102, 103, 104, 105, 106, 107, 108, 109, 110, 111, 112, 113, 114, 115, 116, 117, 118, 119, 120, 121, 122, 123, 124, 125, 126, 127, 128, 129, 130, 131, 132, 133, 134, 135, 136, 137, 138] (fun ⟨i, d, M1⟩ => [(11, .int .i64 (i : Int))]) (fun ⟨i, d, M1⟩ w_ => Out bd (bd + 1) w46 w_ ∧ (i : Int) ≤ N.evs.length ∧ FlatM N.evs.length d M1 ∧ Mid N.evs.length M0 k i 0 M1 ∧ Ow 3 encI 1 w.heap.size (bd + 1) w_ (some ⟨bd, 0, none⟩) (N.evs.length * N.evs.length) d) (fun ⟨i, d, M1⟩ => N.evs.length - i) (0, _, _) ⟨rfl, trivial⟩ ⟨Out.refl _ _ _, by omega, hfl, Mid.start, hd⟩ ?_
        rintro ⟨i, d, M1⟩ hav_ w49 ⟨ho50, hi, hfl, hmid0, hd⟩
        have hlp3 := ho50
        have hz51 := ho50.size
        replace hN := hN.out ho50 (by first | omega | (simp only [blk_some, hi1_some] at *; omega))
        replace hT := hT.out ho50 (by first | omega | (simp only [blk_some, hi1_some] at *; omega))
        replace hE := hE.step ho50 (by first | omega | (simp only [blk_some, hi1_some] at *; omega))
        replace hbl4 := hbl4.out ho50 (by first | omega | (simp only [blk_some, hi1_some] at *; omega))
        replace hlp2 := hlp2.step ho50 (by first | omega | (simp only [blk_some, hi1_some] at *; omega))
        refine wp_seq ?_
        refine wp_seq ?_
        refine rg ?_
        refine st (mvI rfl) ?_
        refine st (mvI rfl) ?_
        refine st (y_lss rfl rfl) ?_
        refine rg_end ?_
        refine n_then ?_
        refine cnd rfl (fun hc4 => ?_) (fun hc4 => ?_)
        ·
          try simp only [decide_eq_true_eq, decide_eq_false_iff_not, Bool.not_eq_true', Bool.not_eq_false', Bool.and_eq_true, Bool.or_eq_true, Bool.or_eq_false_iff, Bool.cond_true_right, Bool.cond_false_right, Bool.cond_true_left, Bool.cond_false_left, ne_eq, Decidable.not_not, bne_iff_ne, beq_iff_eq, beq_eq_false_iff_ne, Bool.not_true, Bool.not_false] at hc4
          refine wp_skip ?_
          refine n_then ?_
          refine wp_seq ?_
          refine wp_block ?_
          refine wp_seq ?_
          refine rg ?_
          refine st (asI rfl) ?_
          refine rg_end ?_
          refine n_then ?_
          refine wp_block ?_
          refine lp (γ := Nat × List Int × (Int → Int → Int)) [12, 81, 82, 83, 84, 85, 86, 87, 88, 89, 90, 91, 92, 93, 94, 95, 96, 97, 98, 99, 100, 101, 102, 103, 104, 105, 106, 107, 108, 109, 110, 111, 112, 113, 114, 115, 116, 117, 118, 119, 120, 121, 122, 123, 124, 125, 126, 127, 128, 129, 130, 131, 132, 133, 134, 135, 136, 137, 138] (fun ⟨j, d, M2⟩ => [(12, .int .i64 (j : Int))]) (fun ⟨j, d, M2⟩ w_ => Out bd (bd + 1) w49 w_ ∧ (j : Int) ≤ N.evs.length ∧ FlatM N.evs.length d M2 ∧ Mid N.evs.length M0 k i j M2 ∧ Ow 3 encI 1 w.heap.size (bd + 1) w_ (some ⟨bd, 0, none⟩) (N.evs.length * N.evs.length) d) (fun ⟨j, d, M2⟩ => N.evs.length - j) (0, _, _) ⟨rfl, trivial⟩ ⟨Out.refl _ _ _, by omega, hfl, hmid0, hd⟩ ?_
          rintro ⟨j, d, M2⟩ hav_ w52 ⟨ho53, hj, hfl, hmid, hd⟩
          have hlp4 := ho53
          have hz54 := ho53.size
          replace hN := hN.out ho53 (by first | omega | (simp only [blk_some, hi1_some] at *; omega))
          replace hT := hT.out ho53 (by first | omega | (simp only [blk_some, hi1_some] at *; omega))
          replace hE := hE.step ho53 (by first | omega | (simp only [blk_some, hi1_some] at *; omega))
          replace hbl4 := hbl4.out ho53 (by first | omega | (simp only [blk_some, hi1_some] at *; omega))
          replace hlp2 := hlp2.step ho53 (by first | omega | (simp only [blk_some, hi1_some] at *; omega))
          replace hlp3 := hlp3.step ho53 (by first | omega | (simp only [blk_some, hi1_some] at *; omega))
          refine wp_seq ?_
          refine wp_seq ?_
          refine rg ?_
          refine st (mvI rfl) ?_
          refine st (mvI rfl) ?_
          refine st (y_lss rfl rfl) ?_
          refine rg_end ?_
          refine n_then ?_
          refine cnd rfl (fun hc5 => ?_) (fun hc5 => ?_)
          ·
            try simp only [decide_eq_true_eq, decide_eq_false_iff_not, Bool.not_eq_true', Bool.not_eq_false', Bool.and_eq_true, Bool.or_eq_true, Bool.or_eq_false_iff, Bool.cond_true_right, Bool.cond_false_right, Bool.cond_true_left, Bool.cond_false_left, ne_eq, Decidable.not_not, bne_iff_ne, beq_iff_eq, beq_eq_false_iff_ne, Bool.not_true, Bool.not_false] at hc5
            have he1 := hmid.col hfw (by omega) (by omega) (by omega)
            have he2 := hmid.row hfw (by omega) (by omega) (by omega)
            have he3 := hmid.here (by omega) (by omega) (by omega) (by omega)
            have q1 := fw_tight hfw hfin hg.ok rfl (by omega) (i := i) (j := k) (by omega) (by omega) (by omega) (by omega)
            have q2 := fw_tight hfw hfin hg.ok rfl (by omega) (i := k) (j := j) (by omega) (by omega) (by omega) (by omega)
            have q3 := fw_tight hfw hfin hg.ok rfl (by omega) (i := i) (j := j) (by omega) (by omega) (by omega) (by omega)
            rw [← he1] at q1
            rw [← he2] at q2
            rw [← he3] at q3
            have v1 := hfl.val i k (by omega) (by omega) (by omega) (by omega)
            have v2 := hfl.val k j (by omega) (by omega) (by omega) (by omega)
            have v3 := hfl.val i j (by omega) (by omega) (by omega) (by omega)
            have u1 := flatV_lt q1
            have u2 := flatV_lt q2
            have u3 := flatV_lt q3
            rw [← v1] at u1
            rw [← v2] at u2
            rw [← v3] at u3
            have r1 := flat_rng (n := N.evs.length) (i := i) (j := k) (by omega) (by omega) (by omega) (by omega)
            have r2 := flat_rng (n := N.evs.length) (i := k) (j := j) (by omega) (by omega) (by omega) (by omega)
            have r3 := flat_rng (n := N.evs.length) (i := i) (j := j) (by omega) (by omega) (by omega) (by omega)
            have hdl : (d.length : Int) = (N.evs.length : Int) * N.evs.length := by rw [hfl.len]; simp
            refine wp_skip ?_
            refine n_then ?_
            refine wp_seq ?_
            refine wp_block ?_
            refine cut (γ := Unit) [86, 87, 88, 89, 90, 91, 92, 93, 94, 95, 96, 97, 98, 99, 100, 101, 102, 103, 104, 105] (fun _ => [(105, .bool (decide (M2 i k ≠ -1 ∧ M2 k j ≠ -1)))]) (fun _ w_ => Ext w52 w_ ∧ True) ?_ ?_
            ·
              have hcut := Out.refl 0 0 w52
              refine rg ?_
              refine st (mvS rfl) ?_
              refine st (mvI rfl) ?_
              refine st (mvI rfl) ?_
              refine st (y_mul rfl rfl (by omega)) ?_
              refine st (mvI rfl) ?_
              refine st (y_add rfl rfl (by omega)) ?_
              refine st (y_ix hd.sl sl22 rfl (hfl.len.symm) rfl (by omega) (by omega)) ?_
              refine st (y_le hd.sl na3 rfl (by omega) (by omega) rfl) ?_
              refine st (y_lss rfl rfl) ?_
              refine st (mvB rfl) ?_
              refine gspL 95 rfl (fun hg55 => ?_) (fun hg55 => ?_)
              ·
                have hg55n := hg55; try simp only [decide_eq_true_eq, decide_eq_false_iff_not, Bool.not_eq_true', Bool.not_eq_false', Bool.and_eq_true, Bool.or_eq_true, Bool.or_eq_false_iff, Bool.cond_true_right, Bool.cond_false_right, Bool.cond_true_left, Bool.cond_false_left, ne_eq, Decidable.not_not, bne_iff_ne, beq_iff_eq, beq_eq_false_iff_ne, Bool.not_true, Bool.not_false] at hg55n
                refine stg rfl rfl hg55 (mvS rfl) ?_
                refine stg rfl rfl hg55 (mvI rfl) ?_
                refine stg rfl rfl hg55 (mvI rfl) ?_
                refine stg rfl rfl hg55 (y_mul rfl rfl (by omega)) ?_
                refine stg rfl rfl hg55 (mvI rfl) ?_
                refine stg rfl rfl hg55 (y_add rfl rfl (by omega)) ?_
                refine stg rfl rfl hg55 (y_ix hd.sl sl22 rfl (hfl.len.symm) rfl (by omega) (by omega)) ?_
                refine stg rfl rfl hg55 (y_le hd.sl na3 rfl (by omega) (by omega) rfl) ?_
                refine stg rfl rfl hg55 (y_lss rfl rfl) ?_
                refine st (y_pickT rfl hg55 (v := .bool _) rfl) ?_
                refine rg_end ?_
                exact n_then ⟨(), _, rfl, same_lk rfl (same_rfl), ⟨vb (by simp only [decide_eq_true_eq, decide_eq_false_iff_not, Bool.not_eq_true', Bool.not_eq_eq_eq_not, Bool.not_true, Bool.false_eq_true, false_iff, true_iff, iff_true, iff_false]; omega), trivial⟩, ⟨hcut, trivial⟩⟩
              ·
                have hg55n := hg55; try simp only [decide_eq_true_eq, decide_eq_false_iff_not, Bool.not_eq_true', Bool.not_eq_false', Bool.and_eq_true, Bool.or_eq_true, Bool.or_eq_false_iff, Bool.cond_true_right, Bool.cond_false_right, Bool.cond_true_left, Bool.cond_false_left, ne_eq, Decidable.not_not, bne_iff_ne, beq_iff_eq, beq_eq_false_iff_ne, Bool.not_true, Bool.not_false] at hg55n
                refine sts rfl rfl hg55 ?_
                refine sts rfl rfl hg55 ?_
                refine sts rfl rfl hg55 ?_
                refine sts rfl rfl hg55 ?_
                refine sts rfl rfl hg55 ?_
                refine sts rfl rfl hg55 ?_
                refine sts rfl rfl hg55 ?_
                refine sts rfl rfl hg55 ?_
                refine sts rfl rfl hg55 ?_
                refine st (y_pickF rfl hg55 (v := .bool _) rfl) ?_
                refine rg_end ?_
                exact n_then ⟨(), _, rfl, same_lk rfl (same_rfl), ⟨vb (by simp only [decide_eq_true_eq, decide_eq_false_iff_not, Bool.not_eq_true', Bool.not_eq_eq_eq_not, Bool.not_true, Bool.false_eq_true, false_iff, true_iff, iff_true, iff_false]; omega), trivial⟩, ⟨hcut, trivial⟩⟩
            ·
              rintro _ hav_ w56 ⟨ho57, _⟩
              have hz58 := ho57.size
              replace hN := hN.ext ho57
              replace hT := hT.ext ho57
              replace hE := hE.step ho57 (.inl (Nat.le_refl _))
              replace hbl4 := hbl4.ext ho57
              replace hlp2 := hlp2.step ho57 (.inl (Nat.le_refl _))
              replace hlp3 := hlp3.step ho57 (.inl (Nat.le_refl _))
              replace hd := hd.ext ho57
              replace hlp4 := hlp4.step ho57 (.inl (Nat.le_refl _))
              refine cnd rfl (fun hc6 => ?_) (fun hc6 => ?_)
              ·
                try simp only [decide_eq_true_eq, decide_eq_false_iff_not, Bool.not_eq_true', Bool.not_eq_false', Bool.and_eq_true, Bool.or_eq_true, Bool.or_eq_false_iff, Bool.cond_true_right, Bool.cond_false_right, Bool.cond_true_left, Bool.cond_false_left, ne_eq, Decidable.not_not, bne_iff_ne, beq_iff_eq, beq_eq_false_iff_ne, Bool.not_true, Bool.not_false] at hc6
                refine rgD 32 (fun w_ => Ext w56 w_) (fun i => false) mixed (by kernel_rfl) ?_
                intro w59 ho60 hs61
                refine ⟨ho60, ?_⟩
                have hx62 := ho60
                refine tn rfl (fun _ hG => mvS rfl) ?_
                refine tn rfl (fun _ hG => mvI rfl) ?_
                refine tn rfl (fun _ hG => mvI rfl) ?_
                refine tn rfl (fun _ hG => y_mul rfl rfl (by omega)) ?_
                refine tn rfl (fun _ hG => mvI rfl) ?_
                refine tn rfl (fun _ hG => y_add rfl rfl (by omega)) ?_
                refine tn rfl (fun _ hG => mvS rfl) ?_
                refine tn rfl (fun _ hG => mvI rfl) ?_
                refine tn rfl (fun _ hG => mvI rfl) ?_
                refine tn rfl (fun _ hG => y_mul rfl rfl (by omega)) ?_
                refine tn rfl (fun _ hG => mvI rfl) ?_
                refine tn rfl (fun _ hG => y_add rfl rfl (by omega)) ?_
                refine tn rfl (fun _ hG => y_ix (hd.ext hG).sl sl22 rfl (hfl.len.symm) rfl (by omega) (by omega)) ?_
                refine tn rfl (fun _ hG => y_le (hd.ext hG).sl na3 rfl (by omega) (by omega) rfl) ?_
                refine tn rfl (fun _ hG => mvS rfl) ?_
                refine tn rfl (fun _ hG => mvI rfl) ?_
                refine tn rfl (fun _ hG => mvI rfl) ?_
                refine tn rfl (fun _ hG => y_mul rfl rfl (by omega)) ?_
                refine tn rfl (fun _ hG => mvI rfl) ?_
                refine tn rfl (fun _ hG => y_add rfl rfl (by omega)) ?_
                refine tn rfl (fun _ hG => y_ix (hd.ext hG).sl sl22 rfl (hfl.len.symm) rfl (by omega) (by omega)) ?_
                refine tn rfl (fun _ hG => y_le (hd.ext hG).sl na3 rfl (by omega) (by omega) rfl) ?_
                refine tn rfl (fun _ hG => mvS rfl) ?_
                refine tn rfl (fun _ hG => mvI rfl) ?_
                refine tn rfl (fun _ hG => mvI rfl) ?_
                refine tn rfl (fun _ hG => y_mul rfl rfl (by omega)) ?_
                refine tn rfl (fun _ hG => mvI rfl) ?_
                refine tn rfl (fun _ hG => y_add rfl rfl (by omega)) ?_
                refine tn rfl (fun _ hG => y_ix (hd.ext hG).sl sl22 rfl (hfl.len.symm) rfl (by omega) (by omega)) ?_
                refine tn rfl (fun _ hG => y_le (hd.ext hG).sl na3 rfl (by omega) (by omega) rfl) ?_
                refine tn rfl (fun _ hG => y_add rfl rfl (by omega)) ?_
                refine tn rfl (fun _ hG => y_min rfl rfl) ?_
                refine t_end ?_
                have hz63 := hx62.size
                replace hN := hN.ext hx62
                replace hT := hT.ext hx62
                replace hE := hE.step hx62 (.inl (Nat.le_refl _))
                replace hbl4 := hbl4.ext hx62
                replace hlp2 := hlp2.step hx62 (.inl (Nat.le_refl _))
                replace hlp3 := hlp3.step hx62 (.inl (Nat.le_refl _))
                replace hd := hd.ext hx62
                replace hlp4 := hlp4.step hx62 (.inl (Nat.le_refl _))
                refine st (y_ix hd.sl sl22 rfl (hfl.len.symm) rfl (by omega) (by omega)) ?_
                refine sd0 (d_se (j := 0)  hd sz3 rfl rfl rfl (by omega) (by omega) (Nat.le_of_ble_eq_true rfl) rfl ?_)
                intro w64 hs66 ho65 hd'
                have hrhd := hd.rng
                clear hd; have hd := hd'; clear hd'
                have hz67 := ho65.size
                replace hN := hN.out ho65 (by first | omega | (simp only [blk_some, hi1_some] at *; omega))
                replace hT := hT.out ho65 (by first | omega | (simp only [blk_some, hi1_some] at *; omega))
                replace hE := hE.step ho65 (by first | omega | (simp only [blk_some, hi1_some] at *; omega))
                replace hbl4 := hbl4.out ho65 (by first | omega | (simp only [blk_some, hi1_some] at *; omega))
                replace hlp2 := hlp2.step ho65 (by first | omega | (simp only [blk_some, hi1_some] at *; omega))
                replace hlp3 := hlp3.step ho65 (by first | omega | (simp only [blk_some, hi1_some] at *; omega))
                replace hlp4 := hlp4.step ho65 (by first | omega | (simp only [blk_some, hi1_some] at *; omega))
                have hfl := hfl.set (M' := updM M2 i j (lessS (M2 i j) (M2 i k + M2 k j))) (v := min (el d (i * N.evs.length + j)) (el d (i * N.evs.length + k) + el d (k * N.evs.length + j))) (by omega) (by omega) (by omega) (by omega) (by rw [v3, u1.2 hc6.1, u2.2 hc6.2]; exact flatV_less q3 (by omega) (by omega)) (fun x y x0 y0 => rfl)
                have hmid := hmid.next (M' := updM M2 i j (lessS (M2 i j) (M2 i k + M2 k j))) (by omega) (by omega) (by omega) (by omega) (fun x y x0 y0 => by unfold updM rlx; rw [← he1, ← he2, ← he3, if_pos hc6])
                refine rg_end ?_
                refine n_blk ?_
                refine n_then ?_
                refine rg ?_
                refine st (mvI rfl) ?_
                refine st (y_add rfl rfl (by omega)) ?_
                refine st (asI rfl) ?_
                refine rg_end ?_
                exact n_then ⟨(j + 1, _, _), _, rfl, same_lk rfl (same_hav rfl (same_lk rfl (same_h0))), ⟨rfl, trivial⟩, ⟨hlp4, by omega, hfl, hmid, hd⟩, by first | omega | (dsimp only; omega)⟩
              ·
                try simp only [decide_eq_true_eq, decide_eq_false_iff_not, Bool.not_eq_true', Bool.not_eq_false', Bool.and_eq_true, Bool.or_eq_true, Bool.or_eq_false_iff, Bool.cond_true_right, Bool.cond_false_right, Bool.cond_true_left, Bool.cond_false_left, ne_eq, Decidable.not_not, bne_iff_ne, beq_iff_eq, beq_eq_false_iff_ne, Bool.not_true, Bool.not_false] at hc6
                have hmid := hmid.same (by omega) (by omega) (by omega) (by omega) (by unfold rlx; rw [if_neg]; rw [← he1, ← he2]; exact hc6)
                refine wp_skip ?_
                refine n_blk ?_
                refine n_then ?_
                refine rg ?_
                refine st (mvI rfl) ?_
                refine st (y_add rfl rfl (by omega)) ?_
                refine st (asI rfl) ?_
                refine rg_end ?_
                exact n_then ⟨(j + 1, _, _), _, rfl, same_lk rfl (same_hav rfl (same_lk rfl (same_h0))), ⟨rfl, trivial⟩, ⟨hlp4, by omega, hfl, hmid, hd⟩, by first | omega | (dsimp only; omega)⟩
          ·
            try simp only [decide_eq_true_eq, decide_eq_false_iff_not, Bool.not_eq_true', Bool.not_eq_false', Bool.and_eq_true, Bool.or_eq_true, Bool.or_eq_false_iff, Bool.cond_true_right, Bool.cond_false_right, Bool.cond_true_left, Bool.cond_false_left, ne_eq, Decidable.not_not, bne_iff_ne, beq_iff_eq, beq_eq_false_iff_ne, Bool.not_true, Bool.not_false] at hc5
            refine wp_exit ?_
            refine e_then (e_then (e_blk (?_)))
            refine n_blk ?_
            refine n_then ?_
            refine rg ?_
            refine st (mvI rfl) ?_
            refine st (y_add rfl rfl (by omega)) ?_
            refine st (asI rfl) ?_
            refine rg_end ?_
            exact n_then ⟨(i + 1, _, _), _, rfl, same_lk rfl (same_hav rfl (same_lk rfl (same_h0))), ⟨rfl, trivial⟩, ⟨hlp3, by omega, hfl, mid_wrap hmid (by omega), hd⟩, by first | omega | (dsimp only; omega)⟩
        ·
          try simp only [decide_eq_true_eq, decide_eq_false_iff_not, Bool.not_eq_true', Bool.not_eq_false', Bool.and_eq_true, Bool.or_eq_true, Bool.or_eq_false_iff, Bool.cond_true_right, Bool.cond_false_right, Bool.cond_true_left, Bool.cond_false_left, ne_eq, Decidable.not_not, bne_iff_ne, beq_iff_eq, beq_eq_false_iff_ne, Bool.not_true, Bool.not_false] at hc4
          have hin : i = N.evs.length := by omega
          subst hin
          have hfw := fw_next hfw hmid0 hg.ok rfl rfl (by omega)
          have hfin := hfin.next (by omega) hmid0.done
          refine wp_exit ?_
          refine e_then (e_then (e_blk (?_)))
          refine n_blk ?_
          refine n_then ?_
          refine rg ?_
          refine st (mvI rfl) ?_
          refine st (y_add rfl rfl (by omega)) ?_
          refine st (asI rfl) ?_
          refine rg_end ?_
          exact n_then ⟨(k + 1, _, _), _, rfl, same_lk rfl (same_hav rfl (same_lk rfl (same_h0))), ⟨rfl, trivial⟩, ⟨hlp2, by omega, hfl, hfw, hfin, hd⟩, by first | omega | (dsimp only; omega)⟩
      ·
        try simp only [decide_eq_true_eq, decide_eq_false_iff_not, Bool.not_eq_true', Bool.not_eq_false', Bool.and_eq_true, Bool.or_eq_true, Bool.or_eq_false_iff, Bool.cond_true_right, Bool.cond_false_right, Bool.cond_true_left, Bool.cond_false_left, ne_eq, Decidable.not_not, bne_iff_ne, beq_iff_eq, beq_eq_false_iff_ne, Bool.not_true, Bool.not_false] at hc3
        have hkn : k = N.evs.length := by omega
        subst hkn
        have hdist := hfw.dist hg.ok rfl (pow_bound N.evs.length (by omega))
        refine wp_exit ?_
        refine e_then (e_then (e_blk (?_)))
        refine n_then ?_
        refine wp_seq ?_
        refine rg ?_
        refine st (mvS rfl) ?_
        refine st (asS rfl) ?_
        refine rg_end ?_
        refine n_then ?_
        refine wp_ret ?_
        refine ret1 (v := (.slice _ _ _)) Try.results45 rfl ?_
        exact ⟨_, _, d, M0, by rw [hfl.len], Sl.wide hd.sl (Nat.le_refl _) (by omega), hfl, hdist, fun i j i0 i1 j0 j1 => fw_tight hfw hfin hg.ok rfl (Nat.le_refl _) i0 i1 j0 j1, hE⟩
end Go.Proofs.Ytggaekjnpbicnaa
