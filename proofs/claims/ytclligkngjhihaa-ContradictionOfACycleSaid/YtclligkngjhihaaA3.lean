/-
  Walks of the functions, printed by a program out of the code and the loops' relations.
-/
import Derived.Test.YtclligkngjhihaaWkD
import Derived.Test.YtclligkngjhihaaProg
import Derived.KernelRfl
import Derived.Test.YtclligkngjhihaaBase
import Derived.Test.YtclligkngjhihaaA1
import Derived.Test.YtclligkngjhihaaA2
namespace Go.Proofs.Ytclligkngjhihaa
open Go.Wk Go.RowKit
set_option linter.unusedVariables false
set_option linter.unusedSimpArgs false
theorem cl34 : Callable Try.prog 34 := ⟨Try.call34⟩
theorem cl71 : Callable Try.prog 71 := ⟨Try.call71⟩
theorem cl72 : Callable Try.prog 72 := ⟨Try.call72⟩
theorem cl78 : Callable Try.prog 78 := ⟨Try.call78⟩
theorem cl81 : Callable Try.prog 81 := ⟨Try.call81⟩
theorem mixed : Try.prog.follows .mixedOrders = true := by kernel_rfl
theorem sl22 : SliceOf Try.prog 22 3 1 := ⟨Try.underlying22, Try.sizeOf3⟩

set_option maxRecDepth 100000 in
theorem network_Good_ok (N : Net) (A : NetA) (lo hi : Nat) (t : List Int) (at_ : Option Addr) (ct : Nat) (lt ht : Nat) (w : World) (hN : NetIn lo hi w N A) (hT : Ints lt ht w at_ t)  : Cal Try.prog 72 [netV N A, .slice at_ t.length ct] w (fun v w' => v = .bool (goodT N t) ∧ Ext w w') := by
 have hE : Out 0 0 w w := Out.refl _ _ w
 refine enter Try.func72 rfl Try.ntmps72 rfl ?_
 refine wp_seq ?_
 refine rg ?_
 refine sd (d_boxA rfl ?_)
 intro bl4 w1 hbbl4 hs3 ho2 hbl4
 have hz5 := ho2.size
 replace hN := hN.ext ho2
 replace hT := hT.ext ho2
 replace hE := hE.step ho2 (.inl (Nat.le_refl _))
 refine st (asB rfl) ?_
 refine rg_end ?_
 refine n_then ?_
 refine wp_seq ?_
 refine cut (γ := Unit) [7, 8, 9, 10, 11, 12, 13, 14, 15, 16, 17] (fun _ => [(17, .bool (!(netOk N && decide (t.length = N.evs.length))))]) (fun _ w_ => Ext w1 w_ ∧ True) ?_ ?_
 ·
  have hcut := Out.refl 0 0 w1
  refine rg ?_
  refine st (y_lbN hbl4 agg26 rfl) ?_
  refine sc cl34 (network_Check_ok N A _ _ _ hN) rfl ?_
  rintro v10 w6 ⟨rfl, ho7⟩
  have hz11 := ho7.size
  replace hN := hN.ext ho7
  replace hT := hT.ext ho7
  replace hE := hE.step ho7 (.inl (Nat.le_refl _))
  replace hbl4 := hbl4.ext ho7
  replace hcut := hcut.step ho7 (.inl (Nat.le_refl _))
  refine st (y_not rfl) ?_
  refine st (mvB rfl) ?_
  refine gspL 10 rfl (fun hg12 => ?_) (fun hg12 => ?_)
  ·
   have hg12n := hg12; try simp only [nm] at hg12n
   refine sts rfl rfl hg12 ?_
   refine sts rfl rfl hg12 ?_
   refine sts rfl rfl hg12 ?_
   refine sts rfl rfl hg12 ?_
   refine sts rfl rfl hg12 ?_
   refine sts rfl rfl hg12 ?_
   refine st (y_pickT rfl hg12 (v := .bool _) rfl) ?_
   refine rg_end ?_
   exact n_then ⟨(), _, rfl, same_lk rfl (same_rfl), ⟨vb (by first | (simp_all; done) | (simp_all; omega)), trivial⟩, ⟨hcut, trivial⟩⟩
  ·
   have hg12n := hg12; try simp only [nm] at hg12n
   refine stg rfl rfl hg12 (mvS rfl) ?_
   refine stg rfl rfl hg12 (y_len Try.underlying22 rfl) ?_
   refine stg rfl rfl hg12 (y_fld fld26_1 rfl) ?_
   refine stg rfl rfl hg12 (y_lb hbl4 na23 rfl rfl) ?_
   refine stg rfl rfl hg12 (y_len Try.underlying23 rfl) ?_
   refine stg rfl rfl hg12 (y_neq rfl rfl) ?_
   refine st (y_pickF rfl hg12 (v := .bool _) rfl) ?_
   refine rg_end ?_
   exact n_then ⟨(), _, rfl, same_lk rfl (same_rfl), ⟨vb (by first | (simp_all; done) | (simp_all; omega)), trivial⟩, ⟨hcut, trivial⟩⟩
 ·
  rintro _ hav_ w13 ⟨ho14, _⟩
  have hz15 := ho14.size
  replace hN := hN.ext ho14
  replace hT := hT.ext ho14
  replace hE := hE.step ho14 (.inl (Nat.le_refl _))
  replace hbl4 := hbl4.ext ho14
  refine cnd rfl (fun hc0 => ?_) (fun hc0 => ?_)
  ·
   try simp only [nm] at hc0
   have hf : goodT N t = false := by simp only [goodT, hc0, Bool.false_and]
   refine wp_seq ?_
   refine rg ?_
   refine st (asB rfl) ?_
   refine rg_end ?_
   refine n_then ?_
   refine wp_ret ?_
   refine r_then (ret1 (v := (.bool _)) Try.results72 rfl ?_)
   exact ⟨by rw [hf], hE⟩
  ·
   try simp only [nm] at hc0
   have hlen : (N.evs.length : Int) ≤ 48 ∧ t.length = N.evs.length := ⟨(netOk_iff.1 hc0.1).ev, hc0.2⟩
   refine wp_skip ?_
   refine n_then ?_
   refine wp_seq ?_
   refine wp_seq ?_
   refine rg ?_
   refine st (mvS rfl) ?_
   refine st (y_len Try.underlying22 rfl) ?_
   refine st (mvI rfl) ?_
   refine rg_end ?_
   refine n_then ?_
   refine wp_block ?_
   refine lp (γ := Nat) [4, 6, 20, 21, 22, 23, 24, 25, 26, 27, 28, 29, 30, 31, 32] (fun k => [(20, .int .i64 (k : Int))]) (fun k w_ => Ext w13 w_ ∧ (k : Int) ≤ t.length ∧ (t.take k).all (fun x => decide (0 ≤ x ∧ x < N.p)) = true) (fun k => t.length - k) 0 ⟨rfl, trivial⟩ ⟨Out.refl _ _ _, by omega, by simp⟩ ?_
   rintro k hav_ w16 ⟨ho17, hk, hall⟩
   have hlp0 := ho17
   have hz18 := ho17.size
   replace hN := hN.ext ho17
   replace hT := hT.ext ho17
   replace hE := hE.step ho17 (.inl (Nat.le_refl _))
   replace hbl4 := hbl4.ext ho17
   refine wp_seq ?_
   refine rg ?_
   refine st (y_lss rfl rfl) ?_
   refine rg_end ?_
   refine n_then ?_
   refine wp_seq ?_
   refine cnd rfl (fun hc1 => ?_) (fun hc1 => ?_)
   ·
    try simp only [nm] at hc1
    refine wp_skip ?_
    refine n_then ?_
    refine wp_seq ?_
    refine wp_block ?_
    refine wp_seq ?_
    refine rg ?_
    refine st (y_ix hT sl22 rfl (rfl) rfl (by omega) (by omega)) ?_
    refine st (y_le hT na3 rfl (by omega) (by omega) rfl) ?_
    refine st (asI rfl) ?_
    refine rg_end ?_
    refine n_then ?_
    refine wp_seq ?_
    refine rg ?_
    refine st (mvI rfl) ?_
    refine st (y_lss rfl rfl) ?_
    refine st (mvB rfl) ?_
    refine gspL 26 rfl (fun hg19 => ?_) (fun hg19 => ?_)
    ·
     have hg19n := hg19; try simp only [nm] at hg19n
     refine sts rfl rfl hg19 ?_
     refine sts rfl rfl hg19 ?_
     refine sts rfl rfl hg19 ?_
     refine sts rfl rfl hg19 ?_
     refine st (y_pickT rfl hg19 (v := .bool _) rfl) ?_
     refine rg_end ?_
     refine n_then ?_
     refine cnd rfl (fun hc2 => ?_) (fun hc2 => absurd hc2 (by decide))
     have hf : goodT N t = false := by simp only [goodT, all_false hc1 (q := fun x => decide (0 ≤ x ∧ x < N.p)) (by simp only [decide_eq_true_eq, decide_eq_false_iff_not, Bool.not_eq_true', Bool.not_eq_eq_eq_not, Bool.not_true, Bool.false_eq_true, false_iff, true_iff, iff_true, iff_false]; omega), Bool.and_false]
     refine wp_seq ?_
     refine rg ?_
     refine st (asB rfl) ?_
     refine rg_end ?_
     refine n_then ?_
     refine wp_ret ?_
     refine r_blk (r_then (r_then (r_blk (r_then (ret1 (v := (.bool _)) Try.results72 rfl ?_)))))
     exact ⟨by rw [hf], hE⟩
    ·
     have hg19n := hg19; try simp only [nm] at hg19n
     refine stg rfl rfl hg19 (mvI rfl) ?_
     refine stg rfl rfl hg19 (y_fld fld26_0 rfl) ?_
     refine stg rfl rfl hg19 (y_lb hbl4 na3 rfl rfl) ?_
     refine stg rfl rfl hg19 (y_geq rfl rfl) ?_
     refine st (y_pickF rfl hg19 (v := .bool _) rfl) ?_
     refine rg_end ?_
     refine n_then ?_
     refine cnd rfl (fun hc2 => ?_) (fun hc2 => ?_)
     ·
      try simp only [nm] at hc2
      have hf : goodT N t = false := by simp only [goodT, all_false hc1 (q := fun x => decide (0 ≤ x ∧ x < N.p)) (by simp only [decide_eq_true_eq, decide_eq_false_iff_not, Bool.not_eq_true', Bool.not_eq_eq_eq_not, Bool.not_true, Bool.false_eq_true, false_iff, true_iff, iff_true, iff_false]; omega), Bool.and_false]
      refine wp_seq ?_
      refine rg ?_
      refine st (asB rfl) ?_
      refine rg_end ?_
      refine n_then ?_
      refine wp_ret ?_
      refine r_blk (r_then (r_then (r_blk (r_then (ret1 (v := (.bool _)) Try.results72 rfl ?_)))))
      exact ⟨by rw [hf], hE⟩
     ·
      try simp only [nm] at hc2
      refine wp_skip ?_
      refine n_blk ?_
      refine n_then ?_
      refine rg ?_
      refine st (y_add rfl rfl (by omega)) ?_
      refine st (mvI rfl) ?_
      refine rg_end ?_
      exact n_then ⟨k + 1, _, rfl, same_lk rfl (same_h0), ⟨rfl, trivial⟩, ⟨hlp0, by omega, take_all_succ hc1 hall (by simp only [decide_eq_true_eq]; omega)⟩, by first | omega | (dsimp only; omega)⟩
   ·
    try simp only [nm] at hc1
    have hf : goodT N t = true := by simp only [goodT, hc0.1, hc0.2, all_take_len hc1 hall, Bool.and_self, decide_true]
    refine wp_exit ?_
    refine e_then (e_then (e_blk (?_)))
    refine n_then ?_
    refine wp_seq ?_
    refine rg ?_
    refine st (asB rfl) ?_
    refine rg_end ?_
    refine n_then ?_
    refine wp_ret ?_
    refine ret1 (v := (.bool _)) Try.results72 rfl ?_
    exact ⟨by rw [hf], hE⟩

set_option maxRecDepth 100000 in
theorem network_duration_ok (N : Net) (A : NetA) (lo hi : Nat) (t : List Int) (at_ : Option Addr) (ct : Nat) (lt ht : Nat) (a : Ac) (w : World) (hN : NetIn lo hi w N A) (hT : Ints lt ht w at_ t) (hg : GoodT N t) (ha : AcOk N a) : Cal Try.prog 78 [netV N A, .slice at_ t.length ct, .agg (encAc a).toArray] w (fun v w' => v = .int .i64 (durA N t a) ∧ Ext w w') := by
 have b1 := hg.rng _ (el_mem (l := t) ha.t0 (by rw [hg.len]; exact ha.t1))
 have b2 := hg.rng _ (el_mem (l := t) ha.f0 (by rw [hg.len]; exact ha.f1))
 have p2 := hg.ok.p2
 have p7 := hg.ok.p7
 have hl := hg.len
 obtain ⟨f0, f1, t0, t1, ne, m0, m1, m2, m3, _, _⟩ := ha
 have e1 := Int.emod_nonneg (el t a.tt - el t a.fr - a.mn) (show N.p ≠ 0 by omega)
 have e2 := Int.emod_lt_of_pos (el t a.tt - el t a.fr - a.mn) (show 0 < N.p by omega)
 have hE : Out 0 0 w w := Out.refl _ _ w
 refine enter Try.func78 rfl Try.ntmps78 rfl ?_
 refine wp_seq ?_
 refine rg ?_
 refine sd (d_boxA rfl ?_)
 intro bl4 w1 hbbl4 hs3 ho2 hbl4
 have hz5 := ho2.size
 replace hN := hN.ext ho2
 replace hT := hT.ext ho2
 replace hE := hE.step ho2 (.inl (Nat.le_refl _))
 refine sd (d_boxA rfl ?_)
 intro bl9 w6 hbbl9 hs8 ho7 hbl9
 have hz10 := ho7.size
 replace hN := hN.ext ho7
 replace hT := hT.ext ho7
 replace hE := hE.step ho7 (.inl (Nat.le_refl _))
 replace hbl4 := hbl4.ext ho7
 refine st (asI rfl) ?_
 refine rg_end ?_
 refine n_then ?_
 refine wp_seq ?_
 refine rgD 19 (fun w_ => Ext w6 w_) (fun i => Nat.beq i 18) mixed (by kernel_rfl) ?_
 intro w11 ho12 hs13
 refine ⟨ho12, ?_⟩
 have hx14 := ho12
 refine tn rfl (fun _ hG => y_fld fld36_3 rfl) ?_
 refine tn rfl (fun _ hG => y_lb (hbl9.ext hG) na3 rfl rfl) ?_
 refine tn rfl (fun _ hG => mvS rfl) ?_
 refine tn rfl (fun _ hG => y_fld fld36_2 rfl) ?_
 refine tn rfl (fun _ hG => y_lb (hbl9.ext hG) na3 rfl rfl) ?_
 refine tn rfl (fun _ hG => y_ix (hT.ext hG) sl22 rfl (rfl) rfl (by omega) (by omega)) ?_
 refine tn rfl (fun _ hG => y_le (hT.ext hG) na3 rfl (by omega) (by omega) rfl) ?_
 refine tn rfl (fun _ hG => mvS rfl) ?_
 refine tn rfl (fun _ hG => y_fld fld36_1 rfl) ?_
 refine tn rfl (fun _ hG => y_lb (hbl9.ext hG) na3 rfl rfl) ?_
 refine tn rfl (fun _ hG => y_ix (hT.ext hG) sl22 rfl (rfl) rfl (by omega) (by omega)) ?_
 refine tn rfl (fun _ hG => y_le (hT.ext hG) na3 rfl (by omega) (by omega) rfl) ?_
 refine tn rfl (fun _ hG => y_sub rfl rfl (by omega)) ?_
 refine tn rfl (fun _ hG => y_fld fld36_3 rfl) ?_
 refine tn rfl (fun _ hG => y_lb (hbl9.ext hG) na3 rfl rfl) ?_
 refine tn rfl (fun _ hG => y_sub rfl rfl (by omega)) ?_
 refine tn rfl (fun _ hG => y_fld fld26_0 rfl) ?_
 refine tn rfl (fun _ hG => y_lb (hbl4.ext hG) na3 rfl rfl) ?_
 refine tc rfl cl81 (arith_Mod_ok _ _ _ (by omega) (by omega) (by omega)) rfl ?_
 rintro v19 w15 ⟨rfl, ho16⟩
 have hx20 := hx14.step ho16 (.inl (Nat.le_refl _))
 have hz21 := ho16.size
 refine ⟨hx20, ?_⟩
 refine t_end ?_
 have hz22 := hx20.size
 replace hN := hN.ext hx20
 replace hT := hT.ext hx20
 replace hE := hE.step hx20 (.inl (Nat.le_refl _))
 replace hbl4 := hbl4.ext hx20
 replace hbl9 := hbl9.ext hx20
 refine st (y_add rfl rfl (by omega)) ?_
 refine st (asI rfl) ?_
 refine rg_end ?_
 refine n_then ?_
 refine wp_ret ?_
 refine ret1 (v := (.int .i64 _)) Try.results78 rfl ?_
 exact ⟨rfl, hE⟩

set_option maxRecDepth 100000 in
theorem network_First_ok (N : Net) (A : NetA) (lo hi : Nat) (t : List Int) (at_ : Option Addr) (ct : Nat) (lt ht : Nat) (w : World) (hN : NetIn lo hi w N A) (hT : Ints lt ht w at_ t)  : Cal Try.prog 71 [netV N A, .slice at_ t.length ct] w (fun v w' => v = .tuple #[.int .i64 (firstI N t), .bool (firstB N t)] ∧ Ext w w') := by
 replace hN := hN.full
 replace hT := hT.full
 have hE : Out 0 0 w w := Out.refl _ _ w
 refine enter Try.func71 rfl Try.ntmps71 rfl ?_
 refine wp_seq ?_
 refine rg ?_
 refine sd (d_boxA rfl ?_)
 intro bl4 w1 hbbl4 hs3 ho2 hbl4
 have hz5 := ho2.size
 replace hN := hN.ext ho2
 replace hT := hT.ext ho2
 replace hE := hE.step ho2 (.inl (Nat.le_refl _))
 refine st (asI rfl) ?_
 refine st (asB rfl) ?_
 refine rg_end ?_
 refine n_then ?_
 refine wp_seq ?_
 refine wp_seq ?_
 refine rg ?_
 refine st (y_lbN hbl4 agg26 rfl) ?_
 refine st (mvS rfl) ?_
 refine sc cl72 (network_Good_ok N A _ _ t _ _ _ _ _ hN hT) rfl ?_
 rintro v10 w6 ⟨rfl, ho7⟩
 have hz11 := ho7.size
 replace hN := hN.ext ho7
 replace hT := hT.ext ho7
 replace hE := hE.step ho7 (.inl (Nat.le_refl _))
 replace hbl4 := hbl4.ext ho7
 refine st (y_not rfl) ?_
 refine rg_end ?_
 refine n_then ?_
 refine cnd rfl (fun hc0 => ?_) (fun hc0 => ?_)
 ·
  try simp only [nm] at hc0
  have hf := hc0
  refine wp_seq ?_
  refine rg ?_
  refine st (asI rfl) ?_
  refine st (asB rfl) ?_
  refine rg_end ?_
  refine n_then ?_
  refine wp_ret ?_
  refine r_then (ret2 (v := (.int .i64 _)) (v' := (.bool _)) Try.results71 rfl rfl ?_)
  exact ⟨vib (by simp only [firstI, hf]; rfl) (by simp only [firstB, hf, Bool.false_and]), hE⟩
 ·
  try simp only [nm] at hc0
  have hg := goodT_iff.1 hc0
  have hlen := hg.ok.ac
  refine wp_skip ?_
  refine n_then ?_
  refine wp_seq ?_
  refine wp_seq ?_
  refine rg ?_
  refine st (y_fld fld26_2 rfl) ?_
  refine st (y_lb hbl4 na24 rfl rfl) ?_
  refine st (y_len Try.underlying24 rfl) ?_
  refine st (mvI rfl) ?_
  refine rg_end ?_
  refine n_then ?_
  refine wp_block ?_
  refine lp (γ := Nat) [4, 5, 6, 7, 15, 16, 17, 18, 19, 20, 21, 22, 23, 24, 25, 26, 27, 28] (fun k => [(15, .int .i64 (k : Int))]) (fun k w_ => Ext w6 w_ ∧ (k : Int) ≤ N.acts.length ∧ (N.acts.take k).findIdx? (fun a => decide (a.mx < durA N t a)) = none) (fun k => N.acts.length - k) 0 ⟨rfl, trivial⟩ ⟨Out.refl _ _ _, by omega, by simp⟩ ?_
  rintro k hav_ w12 ⟨ho13, hk, hnone⟩
  have hlp0 := ho13
  have hz14 := ho13.size
  replace hN := hN.ext ho13
  replace hT := hT.ext ho13
  replace hE := hE.step ho13 (.inl (Nat.le_refl _))
  replace hbl4 := hbl4.ext ho13
  refine wp_seq ?_
  refine rg ?_
  refine st (y_lss rfl rfl) ?_
  refine rg_end ?_
  refine n_then ?_
  refine wp_seq ?_
  refine cnd rfl (fun hc1 => ?_) (fun hc1 => ?_)
  ·
   try simp only [nm] at hc1
   have ha := hg.ok.acs _ (el_mem (l := N.acts) (by omega) hc1)
   refine wp_skip ?_
   refine n_then ?_
   refine wp_seq ?_
   refine wp_block ?_
   refine wp_seq ?_
   refine rg ?_
   refine st (mvI rfl) ?_
   refine st (y_ix hN.a sl24 rfl (rfl) rfl (by omega) (by omega)) ?_
   refine st (y_lw hN.a agg36 rfl (by omega) (by omega)) ?_
   refine sd (d_allocA zer36 ?_)
   intro bl18 w15 hbbl18 hs17 ho16 hbl18
   have hz19 := ho16.size
   replace hN := hN.ext ho16
   replace hT := hT.ext ho16
   replace hE := hE.step ho16 (.inl (Nat.le_refl _))
   replace hbl4 := hbl4.ext ho16
   replace hlp0 := hlp0.step ho16 (.inl (Nat.le_refl _))
   refine st (asI rfl) ?_
   refine sd0 (d_stN hbl18 rfl rfl sz36 rfl rfl ?_)
   intro w20 hs22 ho21 hbl18'
   clear hbl18; have hbl18 := hbl18'; clear hbl18'
   have hz23 := ho21.size
   replace hN := hN.out ho21 (by first | omega | (simp only [blk_some, hi1_some] at *; omega))
   replace hT := hT.out ho21 (by first | omega | (simp only [blk_some, hi1_some] at *; omega))
   replace hE := hE.step ho21 (by first | omega | (simp only [blk_some, hi1_some] at *; omega))
   replace hbl4 := hbl4.out ho21 (by first | omega | (simp only [blk_some, hi1_some] at *; omega))
   replace hlp0 := hlp0.step ho21 (by first | omega | (simp only [blk_some, hi1_some] at *; omega))
   refine rg_end ?_
   refine n_then ?_
   refine wp_seq ?_
   refine rgD 6 (fun w_ => Ext w20 w_) (fun i => Nat.beq i 3) mixed (by kernel_rfl) ?_
   intro w24 ho25 hs26
   refine ⟨ho25, ?_⟩
   have hx27 := ho25
   refine tn rfl (fun _ hG => y_lbN (hbl4.ext hG) agg26 rfl) ?_
   refine tn rfl (fun _ hG => mvS rfl) ?_
   refine tn rfl (fun _ hG => y_lbN (hbl18.ext hG) agg36 rfl) ?_
   refine tc rfl cl78 (network_duration_ok N A _ _ t _ _ _ _ _ _ (hN.ext hx27) (hT.ext hx27) hg ha) rfl ?_
   rintro v32 w28 ⟨rfl, ho29⟩
   have hx33 := hx27.step ho29 (.inl (Nat.le_refl _))
   have hz34 := ho29.size
   refine ⟨hx33, ?_⟩
   refine tn rfl (fun _ hG => y_fld fld36_4 rfl) ?_
   refine tn rfl (fun _ hG => y_lb (hbl18.ext hG) na3 rfl rfl) ?_
   refine t_end ?_
   have hz35 := hx33.size
   replace hN := hN.ext hx33
   replace hT := hT.ext hx33
   replace hE := hE.step hx33 (.inl (Nat.le_refl _))
   replace hbl4 := hbl4.ext hx33
   replace hlp0 := hlp0.step hx33 (.inl (Nat.le_refl _))
   replace hbl18 := hbl18.ext hx33
   refine st (y_gtr rfl rfl) ?_
   refine rg_end ?_
   refine n_then ?_
   refine cnd rfl (fun hc2 => ?_) (fun hc2 => ?_)
   ·
    try simp only [nm] at hc2
    have hf := find_here hc1 hnone (show decide _ = true from decide_eq_true hc2)
    refine wp_seq ?_
    refine rg ?_
    refine st (mvI rfl) ?_
    refine st (asI rfl) ?_
    refine st (asB rfl) ?_
    refine rg_end ?_
    refine n_then ?_
    refine wp_ret ?_
    refine r_blk (r_then (r_then (r_blk (r_then (ret2 (v := (.int .i64 _)) (v' := (.bool _)) Try.results71 rfl rfl ?_)))))
    exact ⟨vib (by simp only [firstI, firstBad, hc0, hf, if_true]) (by simp only [firstB, firstBad, hc0, hf, Bool.true_and, Option.isSome_some, Option.isSome_none]), hE⟩
   ·
    try simp only [nm] at hc2
    refine wp_skip ?_
    refine n_blk ?_
    refine n_then ?_
    refine rg ?_
    refine st (y_add rfl rfl (by omega)) ?_
    refine st (mvI rfl) ?_
    refine rg_end ?_
    exact n_then ⟨k + 1, _, rfl, same_lk rfl (same_h0), ⟨rfl, trivial⟩, ⟨hlp0, by omega, find_take_succ hc1 hnone (by simp only [decide_eq_true_eq, decide_eq_false_iff_not, Bool.not_eq_true', Bool.not_eq_eq_eq_not, Bool.not_true, Bool.false_eq_true, false_iff, true_iff, iff_true, iff_false]; omega)⟩, by first | omega | (dsimp only; omega)⟩
  ·
   try simp only [nm] at hc1
   have hf := find_end hc1 hnone
   refine wp_exit ?_
   refine e_then (e_then (e_blk (?_)))
   refine n_then ?_
   refine wp_seq ?_
   refine rg ?_
   refine st (asI rfl) ?_
   refine st (asB rfl) ?_
   refine rg_end ?_
   refine n_then ?_
   refine wp_ret ?_
   refine ret2 (v := (.int .i64 _)) (v' := (.bool _)) Try.results71 rfl rfl ?_
   exact ⟨vib (by simp only [firstI, firstBad, hc0, hf, if_true]) (by simp only [firstB, firstBad, hc0, hf, Bool.true_and, Option.isSome_some, Option.isSome_none]), hE⟩

set_option maxRecDepth 100000 in
theorem network_Feasible_ok (N : Net) (A : NetA) (lo hi : Nat) (t : List Int) (at_ : Option Addr) (ct : Nat) (lt ht : Nat) (w : World) (hN : NetIn lo hi w N A) (hT : Ints lt ht w at_ t)  : Cal Try.prog 60 [netV N A, .slice at_ t.length ct] w (fun v w' => v = .bool (feas N t) ∧ Ext w w') := by
 have hE : Out 0 0 w w := Out.refl _ _ w
 refine enter Try.func60 rfl Try.ntmps60 rfl ?_
 refine wp_seq ?_
 refine rg ?_
 refine sd (d_boxA rfl ?_)
 intro bl4 w1 hbbl4 hs3 ho2 hbl4
 have hz5 := ho2.size
 replace hN := hN.ext ho2
 replace hT := hT.ext ho2
 replace hE := hE.step ho2 (.inl (Nat.le_refl _))
 refine st (asB rfl) ?_
 refine rg_end ?_
 refine n_then ?_
 refine wp_seq ?_
 refine rg ?_
 refine st (y_lbN hbl4 agg26 rfl) ?_
 refine st (mvS rfl) ?_
 refine sc cl71 (network_First_ok N A _ _ t _ _ _ _ _ hN hT) rfl ?_
 rintro v10 w6 ⟨rfl, ho7⟩
 have hz11 := ho7.size
 replace hN := hN.ext ho7
 replace hT := hT.ext ho7
 replace hE := hE.step ho7 (.inl (Nat.le_refl _))
 replace hbl4 := hbl4.ext ho7
 refine st (mvT rfl) ?_
 refine st (y_ext rfl rfl) ?_
 refine st (y_ext rfl rfl) ?_
 refine st (asI rfl) ?_
 refine st (asB rfl) ?_
 refine rg_end ?_
 refine n_then ?_
 refine wp_seq ?_
 refine rg ?_
 refine st (mvB rfl) ?_
 refine st (y_not rfl) ?_
 refine st (mvB rfl) ?_
 refine gspL 15 rfl (fun hg12 => ?_) (fun hg12 => ?_)
 ·
  have hg12n := hg12; try simp only [nm] at hg12n
  refine stg rfl rfl hg12 (y_lbN hbl4 agg26 rfl) ?_
  refine stg rfl rfl hg12 (mvS rfl) ?_
  refine scg rfl rfl hg12 cl72 (network_Good_ok N A _ _ t _ _ _ _ _ hN hT) rfl ?_
  rintro v17 w13 ⟨rfl, ho14⟩
  have hz18 := ho14.size
  replace hN := hN.ext ho14
  replace hT := hT.ext ho14
  replace hE := hE.step ho14 (.inl (Nat.le_refl _))
  replace hbl4 := hbl4.ext ho14
  refine st (y_pickT rfl hg12 (v := .bool _) rfl) ?_
  refine st (asB rfl) ?_
  refine rg_end ?_
  refine n_then ?_
  refine wp_ret ?_
  refine ret1 (v := (.bool _)) Try.results60 rfl ?_
  exact ⟨by rw [feas_eq]; simp_all, hE⟩
 ·
  have hg12n := hg12; try simp only [nm] at hg12n
  refine sts rfl rfl hg12 ?_
  refine sts rfl rfl hg12 ?_
  refine sts rfl rfl hg12 ?_
  refine st (y_pickF rfl hg12 (v := .bool _) rfl) ?_
  refine st (asB rfl) ?_
  refine rg_end ?_
  refine n_then ?_
  refine wp_ret ?_
  refine ret1 (v := (.bool _)) Try.results60 rfl ?_
  exact ⟨by rw [feas_eq]; simp_all, hE⟩
end Go.Proofs.Ytclligkngjhihaa
