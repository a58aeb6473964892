/-
  Walks of the functions, printed by a program out of the code and the loops' relations.
-/
import Derived.Test.YtdgkaahghlbocaaWkD
import Derived.Test.YtdgkaahghlbocaaProg
import Derived.KernelRfl
import Derived.Test.YtdgkaahghlbocaaBase
import Derived.Test.YtdgkaahghlbocaaA1
import Derived.Test.YtdgkaahghlbocaaA2
namespace Go.Proofs.Ytdgkaahghlbocaa
open Go.Wk Go.RowKit
set_option linter.unusedVariables false
set_option linter.unusedSimpArgs false
theorem cl51 : Callable Try.prog 51 := ⟨Try.call51⟩
theorem sl22 : SliceOf Try.prog 22 3 1 := ⟨Try.underlying22, Try.sizeOf3⟩

set_option maxRecDepth 100000 in
theorem network_Good_ok (N : Net) (A : NetA) (lo hi : Nat) (t : List Int) (at_ : Option Addr) (ct : Nat) (lt ht : Nat) (w : World) (hN : NetIn lo hi w N A) (hT : Ints lt ht w at_ t)  : Cal Try.prog 53 [netV N A, .slice at_ t.length ct] w (fun v w' => v = .bool (goodT N t) ∧ Ext w w') := by
 have hE : Out 0 0 w w := Out.refl _ _ w
 refine enter Try.func53 rfl Try.ntmps53 rfl ?_
 refine wp_seq ?_
 refine rg ?_
 refine sd (d_boxA rfl ?_)
 intro bl4 w1 hbbl4 hs3 ho2 hbl4
 have hz5 := ho2.size
 replace hN := hN.ext ho2
 replace hT := hT.ext ho2
 replace hE := hE.step ho2 (.inl (Nat.le_refl _))
 refine st (asB rfl) ?_
 refine rg_end ?_
 refine n_then ?_
 refine wp_seq ?_
 refine cut (γ := Unit) [7, 8, 9, 10, 11, 12, 13, 14, 15, 16, 17] (fun _ => [(17, .bool (!(netOk N && decide (t.length = N.evs.length))))]) (fun _ w_ => Ext w1 w_ ∧ True) ?_ ?_
 ·
  have hcut := Out.refl 0 0 w1
  refine rg ?_
  refine st (y_lbN hbl4 agg26 rfl) ?_
  refine sc cl51 (network_Check_ok N A _ _ _ hN) rfl ?_
  rintro v10 w6 ⟨rfl, ho7⟩
  have hz11 := ho7.size
  replace hN := hN.ext ho7
  replace hT := hT.ext ho7
  replace hE := hE.step ho7 (.inl (Nat.le_refl _))
  replace hbl4 := hbl4.ext ho7
  replace hcut := hcut.step ho7 (.inl (Nat.le_refl _))
  refine st (y_not rfl) ?_
  refine st (mvB rfl) ?_
  refine gspL 10 rfl (fun hg12 => ?_) (fun hg12 => ?_)
  ·
   have hg12n := hg12; try simp only [nm] at hg12n
   refine sts rfl rfl hg12 ?_
   refine sts rfl rfl hg12 ?_
   refine sts rfl rfl hg12 ?_
   refine sts rfl rfl hg12 ?_
   refine sts rfl rfl hg12 ?_
   refine sts rfl rfl hg12 ?_
   refine st (y_pickT rfl hg12 (v := .bool _) rfl) ?_
   refine rg_end ?_
   exact n_then ⟨(), _, rfl, same_lk rfl (same_rfl), ⟨vb (by first | (simp_all; done) | (simp_all; omega)), trivial⟩, ⟨hcut, trivial⟩⟩
  ·
   have hg12n := hg12; try simp only [nm] at hg12n
   refine stg rfl rfl hg12 (mvS rfl) ?_
   refine stg rfl rfl hg12 (y_len Try.underlying22 rfl) ?_
   refine stg rfl rfl hg12 (y_fld fld26_1 rfl) ?_
   refine stg rfl rfl hg12 (y_lb hbl4 na23 rfl rfl) ?_
   refine stg rfl rfl hg12 (y_len Try.underlying23 rfl) ?_
   refine stg rfl rfl hg12 (y_neq rfl rfl) ?_
   refine st (y_pickF rfl hg12 (v := .bool _) rfl) ?_
   refine rg_end ?_
   exact n_then ⟨(), _, rfl, same_lk rfl (same_rfl), ⟨vb (by first | (simp_all; done) | (simp_all; omega)), trivial⟩, ⟨hcut, trivial⟩⟩
 ·
  rintro _ hav_ w13 ⟨ho14, _⟩
  have hz15 := ho14.size
  replace hN := hN.ext ho14
  replace hT := hT.ext ho14
  replace hE := hE.step ho14 (.inl (Nat.le_refl _))
  replace hbl4 := hbl4.ext ho14
  refine cnd rfl (fun hc0 => ?_) (fun hc0 => ?_)
  ·
   try simp only [nm] at hc0
   have hf : goodT N t = false := by simp only [goodT, hc0, Bool.false_and]
   refine wp_seq ?_
   refine rg ?_
   refine st (asB rfl) ?_
   refine rg_end ?_
   refine n_then ?_
   refine wp_ret ?_
   refine r_then (ret1 (v := (.bool _)) Try.results53 rfl ?_)
   exact ⟨by rw [hf], hE⟩
  ·
   try simp only [nm] at hc0
   have hlen : (N.evs.length : Int) ≤ 48 ∧ t.length = N.evs.length := ⟨(netOk_iff.1 hc0.1).ev, hc0.2⟩
   refine wp_skip ?_
   refine n_then ?_
   refine wp_seq ?_
   refine wp_seq ?_
   refine rg ?_
   refine st (mvS rfl) ?_
   refine st (y_len Try.underlying22 rfl) ?_
   refine st (mvI rfl) ?_
   refine rg_end ?_
   refine n_then ?_
   refine wp_block ?_
   refine lp (γ := Nat) [4, 6, 20, 21, 22, 23, 24, 25, 26, 27, 28, 29, 30, 31, 32] (fun k => [(20, .int .i64 (k : Int))]) (fun k w_ => Ext w13 w_ ∧ (k : Int) ≤ t.length ∧ (t.take k).all (fun x => decide (0 ≤ x ∧ x < N.p)) = true) (fun k => t.length - k) 0 ⟨rfl, trivial⟩ ⟨Out.refl _ _ _, by omega, by simp⟩ ?_
   rintro k hav_ w16 ⟨ho17, hk, hall⟩
   have hlp0 := ho17
   have hz18 := ho17.size
   replace hN := hN.ext ho17
   replace hT := hT.ext ho17
   replace hE := hE.step ho17 (.inl (Nat.le_refl _))
   replace hbl4 := hbl4.ext ho17
   refine wp_seq ?_
   refine rg ?_
   refine st (y_lss rfl rfl) ?_
   refine rg_end ?_
   refine n_then ?_
   refine wp_seq ?_
   refine cnd rfl (fun hc1 => ?_) (fun hc1 => ?_)
   ·
    try simp only [nm] at hc1
    refine wp_skip ?_
    refine n_then ?_
    refine wp_seq ?_
    refine wp_block ?_
    refine wp_seq ?_
    refine rg ?_
    refine st (y_ix hT sl22 rfl (rfl) rfl (by omega) (by omega)) ?_
    refine st (y_le hT na3 rfl (by omega) (by omega) rfl) ?_
    refine st (asI rfl) ?_
    refine rg_end ?_
    refine n_then ?_
    refine wp_seq ?_
    refine rg ?_
    refine st (mvI rfl) ?_
    refine st (y_lss rfl rfl) ?_
    refine st (mvB rfl) ?_
    refine gspL 26 rfl (fun hg19 => ?_) (fun hg19 => ?_)
    ·
     have hg19n := hg19; try simp only [nm] at hg19n
     refine sts rfl rfl hg19 ?_
     refine sts rfl rfl hg19 ?_
     refine sts rfl rfl hg19 ?_
     refine sts rfl rfl hg19 ?_
     refine st (y_pickT rfl hg19 (v := .bool _) rfl) ?_
     refine rg_end ?_
     refine n_then ?_
     refine cnd rfl (fun hc2 => ?_) (fun hc2 => absurd hc2 (by decide))
     have hf : goodT N t = false := by simp only [goodT, all_false hc1 (q := fun x => decide (0 ≤ x ∧ x < N.p)) (by simp only [decide_eq_true_eq, decide_eq_false_iff_not, Bool.not_eq_true', Bool.not_eq_eq_eq_not, Bool.not_true, Bool.false_eq_true, false_iff, true_iff, iff_true, iff_false]; omega), Bool.and_false]
     refine wp_seq ?_
     refine rg ?_
     refine st (asB rfl) ?_
     refine rg_end ?_
     refine n_then ?_
     refine wp_ret ?_
     refine r_blk (r_then (r_then (r_blk (r_then (ret1 (v := (.bool _)) Try.results53 rfl ?_)))))
     exact ⟨by rw [hf], hE⟩
    ·
     have hg19n := hg19; try simp only [nm] at hg19n
     refine stg rfl rfl hg19 (mvI rfl) ?_
     refine stg rfl rfl hg19 (y_fld fld26_0 rfl) ?_
     refine stg rfl rfl hg19 (y_lb hbl4 na3 rfl rfl) ?_
     refine stg rfl rfl hg19 (y_geq rfl rfl) ?_
     refine st (y_pickF rfl hg19 (v := .bool _) rfl) ?_
     refine rg_end ?_
     refine n_then ?_
     refine cnd rfl (fun hc2 => ?_) (fun hc2 => ?_)
     ·
      try simp only [nm] at hc2
      have hf : goodT N t = false := by simp only [goodT, all_false hc1 (q := fun x => decide (0 ≤ x ∧ x < N.p)) (by simp only [decide_eq_true_eq, decide_eq_false_iff_not, Bool.not_eq_true', Bool.not_eq_eq_eq_not, Bool.not_true, Bool.false_eq_true, false_iff, true_iff, iff_true, iff_false]; omega), Bool.and_false]
      refine wp_seq ?_
      refine rg ?_
      refine st (asB rfl) ?_
      refine rg_end ?_
      refine n_then ?_
      refine wp_ret ?_
      refine r_blk (r_then (r_then (r_blk (r_then (ret1 (v := (.bool _)) Try.results53 rfl ?_)))))
      exact ⟨by rw [hf], hE⟩
     ·
      try simp only [nm] at hc2
      refine wp_skip ?_
      refine n_blk ?_
      refine n_then ?_
      refine rg ?_
      refine st (y_add rfl rfl (by omega)) ?_
      refine st (mvI rfl) ?_
      refine rg_end ?_
      exact n_then ⟨k + 1, _, rfl, same_lk rfl (same_h0), ⟨rfl, trivial⟩, ⟨hlp0, by omega, take_all_succ hc1 hall (by simp only [decide_eq_true_eq]; omega)⟩, by first | omega | (dsimp only; omega)⟩
   ·
    try simp only [nm] at hc1
    have hf : goodT N t = true := by simp only [goodT, hc0.1, hc0.2, all_take_len hc1 hall, Bool.and_self, decide_true]
    refine wp_exit ?_
    refine e_then (e_then (e_blk (?_)))
    refine n_then ?_
    refine wp_seq ?_
    refine rg ?_
    refine st (asB rfl) ?_
    refine rg_end ?_
    refine n_then ?_
    refine wp_ret ?_
    refine ret1 (v := (.bool _)) Try.results53 rfl ?_
    exact ⟨by rw [hf], hE⟩
end Go.Proofs.Ytdgkaahghlbocaa
