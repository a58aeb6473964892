/-
  Walks of the functions, printed by a program out of the code and the loops' relations.
-/
import Derived.Test.YtggaekjnpbicnaaWkD
import Derived.Test.YtggaekjnpbicnaaProg
import Derived.KernelRfl
import Derived.Test.YtggaekjnpbicnaaKeep
import Derived.Test.YtggaekjnpbicnaaFw
import Derived.Test.YtggaekjnpbicnaaA1
import Derived.Test.YtggaekjnpbicnaaA2
import Derived.Test.YtggaekjnpbicnaaA3
import Derived.Test.YtggaekjnpbicnaaA4
namespace Go.Proofs.Ytggaekjnpbicnaa
open Go.Wk Go.RowKit
set_option linter.unusedVariables false
set_option linter.unusedSimpArgs false
theorem cl29 : Callable Try.prog 29 := ⟨Try.call29⟩
theorem cl33 : Callable Try.prog 33 := ⟨Try.call33⟩
theorem fld40_0 : FieldOf Try.prog 40 0 0 := fun b o w => by simp [Instr.fieldAt, fieldPlace, Instr.sureAddr, Addr.add_lit]
theorem info22 : ∃ i, Try.prog.info? 22 = some i ∧ i.zero = some (.slice none 0 0) ∧ i.size = 1 ∧ i.bytes = 24 := ⟨Try.t22, Try.type22, rfl, rfl, rfl⟩
theorem sl54 : SliceOf Try.prog 54 22 1 := ⟨Try.underlying54, Try.sizeOf22⟩
theorem sz22 : SzOf Try.prog 22 1 := Try.sizeOf22

set_option maxRecDepth 100000 in
theorem robust_slack_ok (N : Net) (A : NetA) (lo hi : Nat) (t : List Int) (at_ : Option Addr) (ct : Nat) (lt ht : Nat) (a : Ac) (w : World) (hN : NetIn lo hi w N A) (hT : Ints lt ht w at_ t) (hg : GoodT N t) (ha : AcOk N a) : Cal Try.prog 33 [netV N A, .slice at_ t.length ct, .agg (encAc a).toArray] w (fun v w' => v = .int .i64 (slackA N t a) ∧ Ext w w') := by
  have b1 := hg.rng _ (el_mem (l := t) ha.t0 (by rw [hg.len]; exact ha.t1))
  have b2 := hg.rng _ (el_mem (l := t) ha.f0 (by rw [hg.len]; exact ha.f1))
  have p2 := hg.ok.p2
  have p7 := hg.ok.p7
  have hl := hg.len
  obtain ⟨f0, f1, t0, t1, ne, m0, m1, m2, m3, _, _⟩ := ha
  have e1 := Int.emod_nonneg (el t a.tt - el t a.fr - a.mn) (show N.p ≠ 0 by omega)
  have e2 := Int.emod_lt_of_pos (el t a.tt - el t a.fr - a.mn) (show 0 < N.p by omega)
  have hE : Out 0 0 w w := Out.refl _ _ w
  refine enter Try.func33 rfl Try.ntmps33 rfl ?_
  refine wp_seq ?_
  refine rg ?_
  refine sd (d_boxA rfl ?_)
  intro bl4 w1 hbbl4 hs3 ho2 hbl4
  have hz5 := ho2.size
  replace hN := hN.ext ho2
  replace hT := hT.ext ho2
  replace hE := hE.step ho2 (.inl (Nat.le_refl _))
  refine sd (d_boxA rfl ?_)
  intro bl9 w6 hbbl9 hs8 ho7 hbl9
  have hz10 := ho7.size
  replace hN := hN.ext ho7
  replace hT := hT.ext ho7
  replace hE := hE.step ho7 (.inl (Nat.le_refl _))
  replace hbl4 := hbl4.ext ho7
  refine st (asI rfl) ?_
  refine rg_end ?_
  refine n_then ?_
  refine wp_seq ?_
  refine rgD 16 (fun w_ => Ext w6 w_) (fun i => false) mixed (by kernel_rfl) ?_
  intro w11 ho12 hs13
  refine ⟨ho12, ?_⟩
  have hx14 := ho12
  refine tn rfl (fun _ hG => mvS rfl) ?_
  refine tn rfl (fun _ hG => y_fld fld40_2 rfl) ?_
  refine tn rfl (fun _ hG => y_lb (hbl9.ext hG) na3 rfl rfl) ?_
  refine tn rfl (fun _ hG => y_ix (hT.ext hG) sl22 rfl (rfl) rfl (by omega) (by omega)) ?_
  refine tn rfl (fun _ hG => y_le (hT.ext hG) na3 rfl (by omega) (by omega) rfl) ?_
  refine tn rfl (fun _ hG => mvS rfl) ?_
  refine tn rfl (fun _ hG => y_fld fld40_1 rfl) ?_
  refine tn rfl (fun _ hG => y_lb (hbl9.ext hG) na3 rfl rfl) ?_
  refine tn rfl (fun _ hG => y_ix (hT.ext hG) sl22 rfl (rfl) rfl (by omega) (by omega)) ?_
  refine tn rfl (fun _ hG => y_le (hT.ext hG) na3 rfl (by omega) (by omega) rfl) ?_
  refine tn rfl (fun _ hG => y_sub rfl rfl (by omega)) ?_
  refine tn rfl (fun _ hG => y_fld fld40_3 rfl) ?_
  refine tn rfl (fun _ hG => y_lb (hbl9.ext hG) na3 rfl rfl) ?_
  refine tn rfl (fun _ hG => y_sub rfl rfl (by omega)) ?_
  refine tn rfl (fun _ hG => y_fld fld26_0 rfl) ?_
  refine tn rfl (fun _ hG => y_lb (hbl4.ext hG) na3 rfl rfl) ?_
  refine t_end ?_
  have hz15 := hx14.size
  replace hN := hN.ext hx14
  replace hT := hT.ext hx14
  replace hE := hE.step hx14 (.inl (Nat.le_refl _))
  replace hbl4 := hbl4.ext hx14
  replace hbl9 := hbl9.ext hx14
  refine sc cl42 (arith_Mod_ok _ _ _ (by omega) (by omega) (by omega)) rfl ?_
  rintro v20 w16 ⟨rfl, ho17⟩
  have hz21 := ho17.size
  replace hN := hN.ext ho17
  replace hT := hT.ext ho17
  replace hE := hE.step ho17 (.inl (Nat.le_refl _))
  replace hbl4 := hbl4.ext ho17
  replace hbl9 := hbl9.ext ho17
  refine st (asI rfl) ?_
  refine rg_end ?_
  refine n_then ?_
  refine wp_ret ?_
  refine ret1 (v := (.int .i64 _)) Try.results33 rfl ?_
  exact ⟨rfl, hE⟩

set_option maxRecDepth 100000 in
theorem robust_less_ok (a b : Int) (w : World) : Cal Try.prog 29 [.int .i64 a, .int .i64 b] w (fun v w' => v = .int .i64 (lessS a b) ∧ Ext w w') := by
  have hE : Out 0 0 w w := Out.refl _ _ w
  refine enter Try.func29 rfl Try.ntmps29 rfl ?_
  refine wp_seq ?_
  refine rg ?_
  refine st (asI rfl) ?_
  refine rg_end ?_
  refine n_then ?_
  refine wp_seq ?_
  refine wp_seq ?_
  refine rg ?_
  refine st (mvI rfl) ?_
  refine st (y_eql rfl rfl) ?_
  refine rg_end ?_
  refine n_then ?_
  refine cnd rfl (fun hc0 => ?_) (fun hc0 => ?_)
  ·
    try simp only [decide_eq_true_eq, decide_eq_false_iff_not, Bool.not_eq_true', Bool.not_eq_false', Bool.and_eq_true, Bool.or_eq_true, Bool.or_eq_false_iff, Bool.cond_true_right, Bool.cond_false_right, Bool.cond_true_left, Bool.cond_false_left, ne_eq, Decidable.not_not, bne_iff_ne, beq_iff_eq, beq_eq_false_iff_ne, Bool.not_true, Bool.not_false] at hc0
    refine wp_seq ?_
    refine rg ?_
    refine st (mvI rfl) ?_
    refine st (asI rfl) ?_
    refine rg_end ?_
    refine n_then ?_
    refine wp_ret ?_
    refine r_then (ret1 (v := (.int .i64 _)) Try.results29 rfl ?_)
    exact ⟨vi (by unfold lessS; rw [if_pos hc0]), hE⟩
  ·
    try simp only [decide_eq_true_eq, decide_eq_false_iff_not, Bool.not_eq_true', Bool.not_eq_false', Bool.and_eq_true, Bool.or_eq_true, Bool.or_eq_false_iff, Bool.cond_true_right, Bool.cond_false_right, Bool.cond_true_left, Bool.cond_false_left, ne_eq, Decidable.not_not, bne_iff_ne, beq_iff_eq, beq_eq_false_iff_ne, Bool.not_true, Bool.not_false] at hc0
    refine wp_skip ?_
    refine n_then ?_
    refine wp_seq ?_
    refine rg ?_
    refine st (mvI rfl) ?_
    refine st (mvI rfl) ?_
    refine st (y_min rfl rfl) ?_
    refine st (asI rfl) ?_
    refine rg_end ?_
    refine n_then ?_
    refine wp_ret ?_
    refine ret1 (v := (.int .i64 _)) Try.results29 rfl ?_
    exact ⟨vi (by unfold lessS; rw [if_neg hc0]), hE⟩

set_option maxRecDepth 100000 in
theorem robust_event_ok (N : Net) (A : NetA) (lo hi : Nat) (i : Int) (w : World) (hN : NetIn lo hi w N A)  : Cal Try.prog 27 [netV N A, .int .i64 i] w (fun v w' => v = .bool (decide (0 ≤ i ∧ i < N.evs.length)) ∧ Ext w w') := by
  have hE : Out 0 0 w w := Out.refl _ _ w
  refine enter Try.func27 rfl Try.ntmps27 rfl ?_
  refine wp_seq ?_
  refine rg ?_
  refine sd (d_boxA rfl ?_)
  intro bl4 w1 hbbl4 hs3 ho2 hbl4
  have hz5 := ho2.size
  replace hN := hN.ext ho2
  replace hE := hE.step ho2 (.inl (Nat.le_refl _))
  refine st (asB rfl) ?_
  refine rg_end ?_
  refine n_then ?_
  refine wp_seq ?_
  refine rg ?_
  refine st (mvI rfl) ?_
  refine st (y_geq rfl rfl) ?_
  refine st (mvB rfl) ?_
  refine gspL 7 rfl (fun hg6 => ?_) (fun hg6 => ?_)
  ·
    have hg6n := hg6; try simp only [decide_eq_true_eq, decide_eq_false_iff_not, Bool.not_eq_true', Bool.not_eq_false', Bool.and_eq_true, Bool.or_eq_true, Bool.or_eq_false_iff, Bool.cond_true_right, Bool.cond_false_right, Bool.cond_true_left, Bool.cond_false_left, ne_eq, Decidable.not_not, bne_iff_ne, beq_iff_eq, beq_eq_false_iff_ne, Bool.not_true, Bool.not_false] at hg6n
    refine stg rfl rfl hg6 (mvI rfl) ?_
    refine stg rfl rfl hg6 (y_fld fld26_1 rfl) ?_
    refine stg rfl rfl hg6 (y_lb hbl4 na23 rfl rfl) ?_
    refine stg rfl rfl hg6 (y_len Try.underlying23 rfl) ?_
    refine stg rfl rfl hg6 (y_lss rfl rfl) ?_
    refine st (y_pickT rfl hg6 (v := .bool _) rfl) ?_
    refine st (asB rfl) ?_
    refine rg_end ?_
    refine n_then ?_
    refine wp_ret ?_
    refine ret1 (v := (.bool _)) Try.results27 rfl ?_
    exact ⟨vb (by simp only [decide_eq_true_eq, decide_eq_false_iff_not, Bool.not_eq_true', Bool.not_eq_eq_eq_not, Bool.not_true, Bool.false_eq_true, false_iff, true_iff, iff_true, iff_false]; omega), hE⟩
  ·
    have hg6n := hg6; try simp only [decide_eq_true_eq, decide_eq_false_iff_not, Bool.not_eq_true', Bool.not_eq_false', Bool.and_eq_true, Bool.or_eq_true, Bool.or_eq_false_iff, Bool.cond_true_right, Bool.cond_false_right, Bool.cond_true_left, Bool.cond_false_left, ne_eq, Decidable.not_not, bne_iff_ne, beq_iff_eq, beq_eq_false_iff_ne, Bool.not_true, Bool.not_false] at hg6n
    refine sts rfl rfl hg6 ?_
    refine sts rfl rfl hg6 ?_
    refine sts rfl rfl hg6 ?_
    refine sts rfl rfl hg6 ?_
    refine sts rfl rfl hg6 ?_
    refine st (y_pickF rfl hg6 (v := .bool _) rfl) ?_
    refine st (asB rfl) ?_
    refine rg_end ?_
    refine n_then ?_
    refine wp_ret ?_
    refine ret1 (v := (.bool _)) Try.results27 rfl ?_
    exact ⟨vb (by simp only [decide_eq_true_eq, decide_eq_false_iff_not, Bool.not_eq_true', Bool.not_eq_eq_eq_not, Bool.not_true, Bool.false_eq_true, false_iff, true_iff, iff_true, iff_false]; omega), hE⟩

set_option maxHeartbeats 2000000 in
set_option maxRecDepth 100000 in
theorem robust_distances_ok (N : Net) (A : NetA) (lo hi : Nat) (t : List Int) (at_ : Option Addr) (ct : Nat) (lt ht : Nat) (w : World) (hN : NetIn lo hi w N A) (hT : Ints lt ht w at_ t) (hg : GoodT N t) : Cal Try.prog 28 [netV N A, .slice at_ t.length ct] w (fun v w' => ∃ D M, v = .slice (some ⟨D, 0, none⟩) N.evs.length N.evs.length ∧ w.heap.size ≤ D ∧ D + 1 + N.evs.length ≤ w'.heap.size ∧ MatW 3 D N.evs.length w' M ∧ DistOk N t N.evs.length (mat M) ∧ Ext w w') := by
  replace hN := hN.full
  replace hT := Ints.full hT
  have hnev := hg.ok.ev
  have hnac := hg.ok.ac
  have htl := hg.len
  have hE : Out 0 0 w w := Out.refl _ _ w
  refine enter Try.func28 rfl Try.ntmps28 rfl ?_
  refine wp_seq ?_
  refine rg ?_
  refine sd (d_boxA rfl ?_)
  intro bl4 w1 hbbl4 hs3 ho2 hbl4
  have hz5 := ho2.size
  replace hN := hN.ext ho2
  replace hT := hT.ext ho2
  replace hE := hE.step ho2 (.inl (Nat.le_refl _))
  refine st (asS rfl) ?_
  refine rg_end ?_
  refine n_then ?_
  refine wp_seq ?_
  refine rg ?_
  refine st (y_fld fld26_1 rfl) ?_
  refine st (y_lb hbl4 na23 rfl rfl) ?_
  refine st (y_len Try.underlying23 rfl) ?_
  refine sd (d_make (lo := w1.heap.size) (enc := encV) (e0 := ((none, 0, 0) : Option Addr × Nat × Nat)) sl54 info22 (fun _ => rfl) rfl rfl rfl (by omega) (by unfold maxLen; omega) (by omega) ?_)
  intro D w6 hbD hs8 ho7 hD
  have hz10 := ho7.size
  replace hN := hN.ext ho7
  replace hT := hT.ext ho7
  replace hE := hE.step ho7 (.inl (Nat.le_refl _))
  replace hbl4 := hbl4.ext ho7
  rw [← hbD] at hD
  refine st (asS rfl) ?_
  refine rg_end ?_
  refine n_then ?_
  refine wp_seq ?_
  refine wp_seq ?_
  refine rg ?_
  refine st (mvS rfl) ?_
  refine st (y_len Try.underlying54 rfl) ?_
  refine st (mvI rfl) ?_
  refine rg_end ?_
  refine n_then ?_
  refine wp_block ?_
  refine lp (γ := Nat) [6, 7, 19, 20, 21, 22, 23, 24, 25, 26, 27, 28, 29, 30, 31, 32, 33, 34, 35, 36, 37, 38, 39, 40, 41, 42, 43, 44] (fun k => [(19, .int .i64 (k : Int))]) (fun k w_ => Out D (D + 1) w6 w_ ∧ (k : Int) ≤ N.evs.length ∧ w_.heap.size = D + 1 + k ∧ Ow 22 encV 1 D (D + 1) w_ (some ⟨D, 0, none⟩) N.evs.length (rowsK D N.evs.length k) ∧ RowsK 3 D N.evs.length k w_ (List.replicate k (List.replicate N.evs.length (-1)))) (fun k => N.evs.length - k) 0 ⟨rfl, trivial⟩ ⟨Out.refl _ _ _, by omega, by omega, by rw [rowsK_zero]; exact hD, RowsK.nil⟩ ?_
  rintro k hav_ w11 ⟨ho12, hk, hsz, hD, hR⟩
  have hlp0 := ho12
  have hz13 := ho12.size
  replace hN := hN.out ho12 (by first | omega | (simp only [blk_some, hi1_some] at *; omega))
  replace hT := hT.out ho12 (by first | omega | (simp only [blk_some, hi1_some] at *; omega))
  replace hE := hE.step ho12 (by first | omega | (simp only [blk_some, hi1_some] at *; omega))
  replace hbl4 := hbl4.out ho12 (by first | omega | (simp only [blk_some, hi1_some] at *; omega))
  refine wp_seq ?_
  refine rg ?_
  refine st (y_lss rfl rfl) ?_
  refine rg_end ?_
  refine n_then ?_
  refine wp_seq ?_
  refine cnd rfl (fun hc0 => ?_) (fun hc0 => ?_)
  ·
    try simp only [decide_eq_true_eq, decide_eq_false_iff_not, Bool.not_eq_true', Bool.not_eq_false', Bool.and_eq_true, Bool.or_eq_true, Bool.or_eq_false_iff, Bool.cond_true_right, Bool.cond_false_right, Bool.cond_true_left, Bool.cond_false_left, ne_eq, Decidable.not_not, bne_iff_ne, beq_iff_eq, beq_eq_false_iff_ne, Bool.not_true, Bool.not_false] at hc0
    refine wp_skip ?_
    refine n_then ?_
    refine wp_seq ?_
    refine wp_block ?_
    refine wp_seq ?_
    refine rg ?_
    refine st (mvI rfl) ?_
    refine st (asI rfl) ?_
    refine rg_end ?_
    refine n_then ?_
    refine wp_seq ?_
    refine rg ?_
    refine st (mvS rfl) ?_
    refine st (mvI rfl) ?_
    refine st (y_fld fld26_1 rfl) ?_
    refine st (y_lb hbl4 na23 rfl rfl) ?_
    refine st (y_len Try.underlying23 rfl) ?_
    refine sd (d_make (lo := (D + 1 + k)) (enc := encI) (e0 := (0 : Int)) sl22 info3 (fun _ => rfl) rfl rfl rfl (by omega) (by unfold maxLen; omega) (by omega) ?_)
    intro br w14 hbbr hs16 ho15 hrow
    have hz18 := ho15.size
    replace hN := hN.ext ho15
    replace hT := hT.ext ho15
    replace hE := hE.step ho15 (.inl (Nat.le_refl _))
    replace hbl4 := hbl4.ext ho15
    replace hD := hD.ext ho15
    replace hR := hR.ext ho15
    replace hlp0 := hlp0.step ho15 (.inl (Nat.le_refl _))
    have hbr : br = D + 1 + k := by omega
    subst hbr
    refine st (y_ix hD.sl sl54 rfl ((rowsK_len _ _ _).symm) rfl (by omega) (by rw [rowsK_len]; omega)) ?_
    refine sd0 (d_se (j := 0) (e' := (some ⟨D + 1 + k, 0, none⟩, N.evs.length, N.evs.length)) hD sz22 rfl rfl rfl (by omega) (by rw [rowsK_len]; omega) (Nat.le_of_ble_eq_true rfl) rfl ?_)
    intro w19 hs21 ho20 hD'
    have hrhD := hD.rng
    clear hD; have hD := hD'; clear hD'
    have hz22 := ho20.size
    replace hN := hN.out ho20 (by first | omega | (simp only [blk_some, hi1_some] at *; omega))
    replace hT := hT.out ho20 (by first | omega | (simp only [blk_some, hi1_some] at *; omega))
    replace hE := hE.step ho20 (by first | omega | (simp only [blk_some, hi1_some] at *; omega))
    replace hbl4 := hbl4.out ho20 (by first | omega | (simp only [blk_some, hi1_some] at *; omega))
    replace hR := hR.out ho20 (by first | omega | (simp only [blk_some, hi1_some] at *; omega))
    replace hlp0 := hlp0.step ho20 (by first | omega | (simp only [blk_some, hi1_some] at *; omega))
    have hrnhrow := hrow.rng
    replace hrow := hrow.out ho20 (by first | omega | (simp only [blk_some, hi1_some] at *; omega))
    simp only [Int.toNat_natCast] at hD
    rw [rowsK_set _ _ _ (by omega)] at hD
    refine rg_end ?_
    refine n_then ?_
    refine wp_seq ?_
    refine rg ?_
    refine st (mvS rfl) ?_
    refine st (mvI rfl) ?_
    refine st (y_ix hD.sl sl54 rfl ((rowsK_len _ _ _).symm) rfl (by omega) (by rw [rowsK_len]; omega)) ?_
    refine st (y_le hD.sl na22 rfl (v := .slice (some ⟨D + 1 + k, 0, none⟩) N.evs.length N.evs.length) (by omega) (by rw [rowsK_len]; omega) (by rw [rowsK_el (by omega)]; rfl)) ?_
    refine st (y_len Try.underlying22 rfl) ?_
    refine st (mvI rfl) ?_
    refine rg_end ?_
    refine n_then ?_
    refine wp_block ?_
    refine lp (γ := Nat × List Int) [7, 34, 35, 36, 37, 38, 39, 40, 41, 42, 43] (fun ⟨j, x⟩ => [(34, .int .i64 (j : Int))]) (fun ⟨j, x⟩ w_ => Out (D + 1 + k) (D + 2 + k) w19 w_ ∧ (j : Int) ≤ N.evs.length ∧ x.length = N.evs.length ∧ (∀ q, q < j → x.getD q 0 = -1) ∧ w_.heap.size = D + 2 + k ∧ Ow 3 encI 1 (D + 1 + k) (D + 2 + k) w_ (some ⟨D + 1 + k, 0, none⟩) N.evs.length x) (fun ⟨j, x⟩ => N.evs.length - j) (0, List.replicate N.evs.length 0) ⟨rfl, trivial⟩ ⟨Out.refl _ _ _, by omega, List.length_replicate, by simp, by omega, hrow.wide (by omega)⟩ ?_
    rintro ⟨j, x⟩ hav_ w23 ⟨ho24, hj, hxl, hx1, hsz1, hrow⟩
    have hlp1 := ho24
    have hz25 := ho24.size
    replace hN := hN.out ho24 (by first | omega | (simp only [blk_some, hi1_some] at *; omega))
    replace hT := hT.out ho24 (by first | omega | (simp only [blk_some, hi1_some] at *; omega))
    replace hE := hE.step ho24 (by first | omega | (simp only [blk_some, hi1_some] at *; omega))
    replace hbl4 := hbl4.out ho24 (by first | omega | (simp only [blk_some, hi1_some] at *; omega))
    have hrnhD := hD.rng
    replace hD := hD.out ho24 (by first | omega | (simp only [blk_some, hi1_some] at *; omega))
    replace hR := hR.out ho24 (by first | omega | (simp only [blk_some, hi1_some] at *; omega))
    replace hlp0 := hlp0.step ho24 (by first | omega | (simp only [blk_some, hi1_some] at *; omega))
    refine wp_seq ?_
    refine rg ?_
    refine st (y_lss rfl rfl) ?_
    refine rg_end ?_
    refine n_then ?_
    refine wp_seq ?_
    refine cnd rfl (fun hc1 => ?_) (fun hc1 => ?_)
    ·
      try simp only [decide_eq_true_eq, decide_eq_false_iff_not, Bool.not_eq_true', Bool.not_eq_false', Bool.and_eq_true, Bool.or_eq_true, Bool.or_eq_false_iff, Bool.cond_true_right, Bool.cond_false_right, Bool.cond_true_left, Bool.cond_false_left, ne_eq, Decidable.not_not, bne_iff_ne, beq_iff_eq, beq_eq_false_iff_ne, Bool.not_true, Bool.not_false] at hc1
      refine wp_skip ?_
      refine n_then ?_
      refine wp_seq ?_
      refine wp_block ?_
      refine wp_seq ?_
      refine rg ?_
      refine st (mvI rfl) ?_
      refine st (asI rfl) ?_
      refine rg_end ?_
      refine n_then ?_
      refine rg ?_
      refine st (mvS rfl) ?_
      refine st (mvI rfl) ?_
      refine st (y_ix hD.sl sl54 rfl ((rowsK_len _ _ _).symm) rfl (by omega) (by rw [rowsK_len]; omega)) ?_
      refine st (y_le hD.sl na22 rfl (v := .slice (some ⟨D + 1 + k, 0, none⟩) N.evs.length N.evs.length) (by omega) (by rw [rowsK_len]; omega) (by rw [rowsK_el (by omega)]; rfl)) ?_
      refine st (mvI rfl) ?_
      refine st (y_ix hrow.sl sl22 rfl (hxl.symm) rfl (by omega) (by omega)) ?_
      refine sd0 (d_se (j := 0)  hrow sz3 rfl rfl rfl (by omega) (by omega) (Nat.le_of_ble_eq_true rfl) rfl ?_)
      intro w26 hs28 ho27 hrow'
      have hrhrow := hrow.rng
      clear hrow; have hrow := hrow'; clear hrow'
      have hz29 := ho27.size
      replace hN := hN.out ho27 (by first | omega | (simp only [blk_some, hi1_some] at *; omega))
      replace hT := hT.out ho27 (by first | omega | (simp only [blk_some, hi1_some] at *; omega))
      replace hE := hE.step ho27 (by first | omega | (simp only [blk_some, hi1_some] at *; omega))
      replace hbl4 := hbl4.out ho27 (by first | omega | (simp only [blk_some, hi1_some] at *; omega))
      replace hD := hD.out ho27 (by first | omega | (simp only [blk_some, hi1_some] at *; omega))
      replace hR := hR.out ho27 (by first | omega | (simp only [blk_some, hi1_some] at *; omega))
      replace hlp0 := hlp0.step ho27 (by first | omega | (simp only [blk_some, hi1_some] at *; omega))
      replace hlp1 := hlp1.step ho27 (by first | omega | (simp only [blk_some, hi1_some] at *; omega))
      refine rg_end ?_
      refine n_blk ?_
      refine n_then ?_
      refine rg ?_
      refine st (y_add rfl rfl (by omega)) ?_
      refine st (mvI rfl) ?_
      refine rg_end ?_
      exact n_then ⟨(j + 1, _), _, rfl, same_lk rfl (same_h0), ⟨rfl, trivial⟩, ⟨hlp1, by omega, by simp [hxl], set_upto hxl (by omega) hx1, by omega, hrow⟩, by first | omega | (dsimp only; omega)⟩
    ·
      try simp only [decide_eq_true_eq, decide_eq_false_iff_not, Bool.not_eq_true', Bool.not_eq_false', Bool.and_eq_true, Bool.or_eq_true, Bool.or_eq_false_iff, Bool.cond_true_right, Bool.cond_false_right, Bool.cond_true_left, Bool.cond_false_left, ne_eq, Decidable.not_not, bne_iff_ne, beq_iff_eq, beq_eq_false_iff_ne, Bool.not_true, Bool.not_false] at hc1
      have hfull : x = List.replicate N.evs.length (-1) := rep_of hxl (by omega) hx1
      refine wp_exit ?_
      refine e_then (e_then (e_blk (?_)))
      refine n_blk ?_
      refine n_then ?_
      refine rg ?_
      refine st (y_add rfl rfl (by omega)) ?_
      refine st (mvI rfl) ?_
      refine rg_end ?_
      exact n_then ⟨k + 1, _, rfl, same_lk rfl (same_hav rfl (same_lk rfl (same_h0))), ⟨rfl, trivial⟩, ⟨hlp0, by omega, by omega, hD, by have h2 := hR.push hrow hxl; rw [hfull] at h2; rw [List.replicate_succ']; exact h2⟩, by first | omega | (dsimp only; omega)⟩
  ·
    try simp only [decide_eq_true_eq, decide_eq_false_iff_not, Bool.not_eq_true', Bool.not_eq_false', Bool.and_eq_true, Bool.or_eq_true, Bool.or_eq_false_iff, Bool.cond_true_right, Bool.cond_false_right, Bool.cond_true_left, Bool.cond_false_left, ne_eq, Decidable.not_not, bne_iff_ne, beq_iff_eq, beq_eq_false_iff_ne, Bool.not_true, Bool.not_false] at hc0
    have hkn : k = N.evs.length := by omega
    subst hkn
    have hM := MatW.made hD hR
    refine wp_exit ?_
    refine e_then (e_then (e_blk (?_)))
    refine n_then ?_
    refine wp_seq ?_
    refine wp_seq ?_
    refine rg ?_
    refine st (y_fld fld26_2 rfl) ?_
    refine st (y_lb hbl4 na24 rfl rfl) ?_
    refine st (y_len Try.underlying24 rfl) ?_
    refine st (mvI rfl) ?_
    refine rg_end ?_
    refine n_then ?_
    refine wp_block ?_
    refine lp (γ := Nat × List (List Int)) [9, 48, 49, 50, 51, 52, 53, 54, 55, 56, 57, 58, 59, 60, 61, 62, 63, 64, 65, 66, 67, 68, 69, 70, 71, 72, 73, 74, 75, 76, 77] (fun ⟨q, M⟩ => [(48, .int .i64 (q : Int))]) (fun ⟨q, M⟩ w_ => Out D (D + 1 + N.evs.length) w11 w_ ∧ (q : Int) ≤ N.acts.length ∧ MatW 3 D N.evs.length w_ M ∧ EdgeOk N t N.evs.length q (mat M)) (fun ⟨q, M⟩ => N.acts.length - q) (0, _) ⟨rfl, trivial⟩ ⟨Out.refl _ _ _, by omega, hM, ⟨fun i j i0 i1 j0 j1 => .inl (mat_rep i0 i1 j0 j1), fun a ha => by simp at ha⟩⟩ ?_
    rintro ⟨q, M⟩ hav_ w30 ⟨ho31, hq, hM, hed⟩
    have hlp2 := ho31
    have hz32 := ho31.size
    replace hN := hN.out ho31 (by first | omega | (simp only [blk_some, hi1_some] at *; omega))
    replace hT := hT.out ho31 (by first | omega | (simp only [blk_some, hi1_some] at *; omega))
    replace hE := hE.step ho31 (by first | omega | (simp only [blk_some, hi1_some] at *; omega))
    replace hbl4 := hbl4.out ho31 (by first | omega | (simp only [blk_some, hi1_some] at *; omega))
    refine wp_seq ?_
    refine rg ?_
    refine st (y_lss rfl rfl) ?_
    refine rg_end ?_
    refine n_then ?_
    refine wp_seq ?_
    refine cnd rfl (fun hc2 => ?_) (fun hc2 => ?_)
    ·
      try simp only [decide_eq_true_eq, decide_eq_false_iff_not, Bool.not_eq_true', Bool.not_eq_false', Bool.and_eq_true, Bool.or_eq_true, Bool.or_eq_false_iff, Bool.cond_true_right, Bool.cond_false_right, Bool.cond_true_left, Bool.cond_false_left, ne_eq, Decidable.not_not, bne_iff_ne, beq_iff_eq, beq_eq_false_iff_ne, Bool.not_true, Bool.not_false] at hc2
      have ha := hg.ok.acs _ (el_mem (l := N.acts) (by omega) hc2)
      have a0 := ha.f0
      have a1 := ha.f1
      have a2 := ha.t0
      have a3 := ha.t1
      refine wp_skip ?_
      refine n_then ?_
      refine wp_seq ?_
      refine wp_block ?_
      refine wp_seq ?_
      refine rg ?_
      refine st (y_ix hN.a sl24 rfl (rfl) rfl (by omega) (by omega)) ?_
      refine st (y_lw hN.a agg40 rfl (by omega) (by omega)) ?_
      refine sd (d_allocA zer40 ?_)
      intro bl36 w33 hbbl36 hs35 ho34 hbl36
      have hz37 := ho34.size
      replace hN := hN.ext ho34
      replace hT := hT.ext ho34
      replace hE := hE.step ho34 (.inl (Nat.le_refl _))
      replace hbl4 := hbl4.ext ho34
      replace hM := hM.ext ho34
      replace hlp2 := hlp2.step ho34 (.inl (Nat.le_refl _))
      refine sd0 (d_stN hbl36 rfl rfl sz40 rfl rfl ?_)
      intro w38 hs40 ho39 hbl36'
      clear hbl36; have hbl36 := hbl36'; clear hbl36'
      have hz41 := ho39.size
      replace hN := hN.out ho39 (by first | omega | (simp only [blk_some, hi1_some] at *; omega))
      replace hT := hT.out ho39 (by first | omega | (simp only [blk_some, hi1_some] at *; omega))
      replace hE := hE.step ho39 (by first | omega | (simp only [blk_some, hi1_some] at *; omega))
      replace hbl4 := hbl4.out ho39 (by first | omega | (simp only [blk_some, hi1_some] at *; omega))
      replace hM := hM.out ho39 (by first | omega | (simp only [blk_some, hi1_some] at *; omega))
      replace hlp2 := hlp2.step ho39 (by first | omega | (simp only [blk_some, hi1_some] at *; omega))
      refine rg_end ?_
      refine n_then ?_
      refine wp_seq ?_
      refine rg ?_
      refine st (y_fld fld40_0 rfl) ?_
      refine st (y_lb hbl36 na3 rfl rfl) ?_
      refine st (y_neq rfl rfl) ?_
      refine rg_end ?_
      refine n_then ?_
      refine cnd rfl (fun hc3 => ?_) (fun hc3 => ?_)
      ·
        try simp only [decide_eq_true_eq, decide_eq_false_iff_not, Bool.not_eq_true', Bool.not_eq_false', Bool.and_eq_true, Bool.or_eq_true, Bool.or_eq_false_iff, Bool.cond_true_right, Bool.cond_false_right, Bool.cond_true_left, Bool.cond_false_left, ne_eq, Decidable.not_not, bne_iff_ne, beq_iff_eq, beq_eq_false_iff_ne, Bool.not_true, Bool.not_false] at hc3
        refine rgD 21 (fun w_ => Ext w38 w_) (fun i => Nat.beq i 19 || Nat.beq i 20) mixed (by kernel_rfl) ?_
        intro w42 ho43 hs44
        refine ⟨ho43, ?_⟩
        have hx45 := ho43
        refine tn rfl (fun _ hG => mvS rfl) ?_
        refine tn rfl (fun _ hG => y_fld fld40_1 rfl) ?_
        refine tn rfl (fun _ hG => y_lb (hbl36.ext hG) na3 rfl rfl) ?_
        refine tn rfl (fun _ hG => y_mi (hM.ext hG) sl54 rfl rfl (by omega) (by omega)) ?_
        refine tn rfl (fun _ hG => y_mrow (hM.ext hG) na22 rfl (by omega) (by omega)) ?_
        refine tn rfl (fun _ hG => y_fld fld40_2 rfl) ?_
        refine tn rfl (fun _ hG => y_lb (hbl36.ext hG) na3 rfl rfl) ?_
        refine tn rfl (fun _ hG => mvS rfl) ?_
        refine tn rfl (fun _ hG => y_fld fld40_1 rfl) ?_
        refine tn rfl (fun _ hG => y_lb (hbl36.ext hG) na3 rfl rfl) ?_
        refine tn rfl (fun _ hG => y_mi (hM.ext hG) sl54 rfl rfl (by omega) (by omega)) ?_
        refine tn rfl (fun _ hG => y_mrow (hM.ext hG) na22 rfl (by omega) (by omega)) ?_
        refine tn rfl (fun _ hG => y_fld fld40_2 rfl) ?_
        refine tn rfl (fun _ hG => y_lb (hbl36.ext hG) na3 rfl rfl) ?_
        refine tn rfl (fun _ hG => y_mri (hM.ext hG) sl22 rfl rfl (by omega) (by omega) (by omega) (by omega)) ?_
        refine tn rfl (fun _ hG => y_mel (hM.ext hG) na3 rfl (by omega) (by omega) (by omega) (by omega)) ?_
        refine tn rfl (fun _ hG => y_lbN (hbl4.ext hG) agg26 rfl) ?_
        refine tn rfl (fun _ hG => mvS rfl) ?_
        refine tn rfl (fun _ hG => y_lbN (hbl36.ext hG) agg40 rfl) ?_
        refine tc rfl cl33 (robust_slack_ok N A _ _ t _ _ _ _ _ _ (hN.ext hx45) (hT.ext hx45) hg ha) rfl ?_
        rintro v50 w46 ⟨rfl, ho47⟩
        have hx51 := hx45.step ho47 (.inl (Nat.le_refl _))
        have hz52 := ho47.size
        refine ⟨hx51, ?_⟩
        refine tc rfl cl29 (robust_less_ok _ _ _) rfl ?_
        rintro v57 w53 ⟨rfl, ho54⟩
        have hx58 := hx51.step ho54 (.inl (Nat.le_refl _))
        have hz59 := ho54.size
        refine ⟨hx58, ?_⟩
        refine t_end ?_
        have hz60 := hx58.size
        replace hN := hN.ext hx58
        replace hT := hT.ext hx58
        replace hE := hE.step hx58 (.inl (Nat.le_refl _))
        replace hbl4 := hbl4.ext hx58
        replace hM := hM.ext hx58
        replace hlp2 := hlp2.step hx58 (.inl (Nat.le_refl _))
        replace hbl36 := hbl36.ext hx58
        refine st (y_mri hM sl22 rfl rfl (by omega) (by omega) (by omega) (by omega)) ?_
        refine sd0 (d_ms hM sz3 rfl rfl (by omega) (by omega) (by omega) (by omega) ?_)
        intro w61 hs63 ho62 hM'
        have hold_ := hM; clear hM; have hM := hM'; clear hM'
        have hz64 := ho62.size
        replace hN := hN.out ho62 (by first | omega | (simp only [blk_some, hi1_some] at *; omega))
        replace hT := hT.out ho62 (by first | omega | (simp only [blk_some, hi1_some] at *; omega))
        replace hE := hE.step ho62 (by first | omega | (simp only [blk_some, hi1_some] at *; omega))
        replace hbl4 := hbl4.out ho62 (by first | omega | (simp only [blk_some, hi1_some] at *; omega))
        replace hlp2 := hlp2.step ho62 (by first | omega | (simp only [blk_some, hi1_some] at *; omega))
        replace hbl36 := hbl36.out ho62 (by first | omega | (simp only [blk_some, hi1_some] at *; omega))
        have hed := hed.add hg.ok rfl hc2 hc3 (fun x y x0 y0 => mat_mset hold_.len hold_.rlen a0 a1 a2 a3 x0 y0)
        refine rg_end ?_
        refine n_blk ?_
        refine n_then ?_
        refine rg ?_
        refine st (y_add rfl rfl (by omega)) ?_
        refine st (mvI rfl) ?_
        refine rg_end ?_
        exact n_then ⟨(q + 1, _), _, rfl, same_lk rfl (same_h0), ⟨rfl, trivial⟩, ⟨hlp2, by omega, hM, hed⟩, by first | omega | (dsimp only; omega)⟩
      ·
        try simp only [decide_eq_true_eq, decide_eq_false_iff_not, Bool.not_eq_true', Bool.not_eq_false', Bool.and_eq_true, Bool.or_eq_true, Bool.or_eq_false_iff, Bool.cond_true_right, Bool.cond_false_right, Bool.cond_true_left, Bool.cond_false_left, ne_eq, Decidable.not_not, bne_iff_ne, beq_iff_eq, beq_eq_false_iff_ne, Bool.not_true, Bool.not_false] at hc3
        have hed := hed.skip hc2 hc3
        refine wp_skip ?_
        refine n_blk ?_
        refine n_then ?_
        refine rg ?_
        refine st (y_add rfl rfl (by omega)) ?_
        refine st (mvI rfl) ?_
        refine rg_end ?_
        exact n_then ⟨(q + 1, _), _, rfl, same_lk rfl (same_h0), ⟨rfl, trivial⟩, ⟨hlp2, by omega, hM, hed⟩, by first | omega | (dsimp only; omega)⟩
    ·
      try simp only [decide_eq_true_eq, decide_eq_false_iff_not, Bool.not_eq_true', Bool.not_eq_false', Bool.and_eq_true, Bool.or_eq_true, Bool.or_eq_false_iff, Bool.cond_true_right, Bool.cond_false_right, Bool.cond_true_left, Bool.cond_false_left, ne_eq, Decidable.not_not, bne_iff_ne, beq_iff_eq, beq_eq_false_iff_ne, Bool.not_true, Bool.not_false] at hc2
      have hfw := hed.fw (by omega)
      refine wp_exit ?_
      refine e_then (e_then (e_blk (?_)))
      refine n_then ?_
      refine wp_seq ?_
      refine wp_seq ?_
      refine rg ?_
      refine st (mvS rfl) ?_
      refine st (y_len Try.underlying54 rfl) ?_
      refine st (mvI rfl) ?_
      refine rg_end ?_
      refine n_then ?_
      refine wp_block ?_
      refine lp (γ := Nat × List (List Int)) [10, 11, 12, 80, 81, 82, 83, 84, 85, 86, 87, 88, 89, 90, 91, 92, 93, 94, 95, 96, 97, 98, 99, 100, 101, 102, 103, 104, 105, 106, 107, 108, 109, 110, 111, 112, 113, 114, 115, 116, 117, 118, 119, 120, 121, 122, 123, 124, 125, 126, 127, 128, 129, 130, 131, 132, 133, 134, 135, 136, 137, 138, 139, 140, 141, 142] (fun ⟨k, M0⟩ => [(80, .int .i64 (k : Int))]) (fun ⟨k, M0⟩ w_ => Out D (D + 1 + N.evs.length) w30 w_ ∧ (k : Int) ≤ N.evs.length ∧ MatW 3 D N.evs.length w_ M0 ∧ FwOk N t N.evs.length k (7200 * 2 ^ k) (mat M0)) (fun ⟨k, M0⟩ => N.evs.length - k) (0, _) ⟨rfl, trivial⟩ ⟨Out.refl _ _ _, by omega, hM, by simpa using hfw⟩ ?_
      rintro ⟨k, M0⟩ hav_ w65 ⟨ho66, hk3, hM, hfw⟩
      have hlp3 := ho66
      have hz67 := ho66.size
      replace hN := hN.out ho66 (by first | omega | (simp only [blk_some, hi1_some] at *; omega))
      replace hT := hT.out ho66 (by first | omega | (simp only [blk_some, hi1_some] at *; omega))
      replace hE := hE.step ho66 (by first | omega | (simp only [blk_some, hi1_some] at *; omega))
      replace hbl4 := hbl4.out ho66 (by first | omega | (simp only [blk_some, hi1_some] at *; omega))
      refine wp_seq ?_
      refine rg ?_
      refine st (y_lss rfl rfl) ?_
      refine rg_end ?_
      refine n_then ?_
      refine wp_seq ?_
      refine cnd rfl (fun hc4 => ?_) (fun hc4 => ?_)
      ·
        try simp only [decide_eq_true_eq, decide_eq_false_iff_not, Bool.not_eq_true', Bool.not_eq_false', Bool.and_eq_true, Bool.or_eq_true, Bool.or_eq_false_iff, Bool.cond_true_right, Bool.cond_false_right, Bool.cond_true_left, Bool.cond_false_left, ne_eq, Decidable.not_not, bne_iff_ne, beq_iff_eq, beq_eq_false_iff_ne, Bool.not_true, Bool.not_false] at hc4
        have hB := pow_bound k (by omega)
        refine wp_skip ?_
        refine n_then ?_
        refine wp_seq ?_
        refine wp_block ?_
        refine wp_seq ?_
        refine rg ?_
        refine st (mvI rfl) ?_
        refine st (asI rfl) ?_
        refine rg_end ?_
        refine n_then ?_
        refine wp_seq ?_
        refine rg ?_
        refine st (mvS rfl) ?_
        refine st (y_len Try.underlying54 rfl) ?_
        refine st (mvI rfl) ?_
        refine rg_end ?_
        refine n_then ?_
        refine wp_block ?_
        refine lp (γ := Nat × List (List Int)) [11, 12, 85, 86, 87, 88, 89, 90, 91, 92, 93, 94, 95, 96, 97, 98, 99, 100, 101, 102, 103, 104, 105, 106, 107, 108, 109, 110, 111, 112, 113, 114, 115, 116, 117, 118, 119, 120, 121, 122, 123, 124, 125, 126, 127, 128, 129, 130, 131, 132, 133, 134, 135, 136, 137, 138, 139, 140, 141] (fun ⟨i, M1⟩ => [(85, .int .i64 (i : Int))]) (fun ⟨i, M1⟩ w_ => Out D (D + 1 + N.evs.length) w65 w_ ∧ (i : Int) ≤ N.evs.length ∧ MatW 3 D N.evs.length w_ M1 ∧ Mid N.evs.length (mat M0) k i 0 (mat M1)) (fun ⟨i, M1⟩ => N.evs.length - i) (0, _) ⟨rfl, trivial⟩ ⟨Out.refl _ _ _, by omega, hM, Mid.start⟩ ?_
        rintro ⟨i, M1⟩ hav_ w68 ⟨ho69, hi4, hM, hmid0⟩
        have hlp4 := ho69
        have hz70 := ho69.size
        replace hN := hN.out ho69 (by first | omega | (simp only [blk_some, hi1_some] at *; omega))
        replace hT := hT.out ho69 (by first | omega | (simp only [blk_some, hi1_some] at *; omega))
        replace hE := hE.step ho69 (by first | omega | (simp only [blk_some, hi1_some] at *; omega))
        replace hbl4 := hbl4.out ho69 (by first | omega | (simp only [blk_some, hi1_some] at *; omega))
        replace hlp3 := hlp3.step ho69 (by first | omega | (simp only [blk_some, hi1_some] at *; omega))
        refine wp_seq ?_
        refine rg ?_
        refine st (y_lss rfl rfl) ?_
        refine rg_end ?_
        refine n_then ?_
        refine wp_seq ?_
        refine cnd rfl (fun hc5 => ?_) (fun hc5 => ?_)
        ·
          try simp only [decide_eq_true_eq, decide_eq_false_iff_not, Bool.not_eq_true', Bool.not_eq_false', Bool.and_eq_true, Bool.or_eq_true, Bool.or_eq_false_iff, Bool.cond_true_right, Bool.cond_false_right, Bool.cond_true_left, Bool.cond_false_left, ne_eq, Decidable.not_not, bne_iff_ne, beq_iff_eq, beq_eq_false_iff_ne, Bool.not_true, Bool.not_false] at hc5
          refine wp_skip ?_
          refine n_then ?_
          refine wp_seq ?_
          refine wp_block ?_
          refine wp_seq ?_
          refine rg ?_
          refine st (mvI rfl) ?_
          refine st (asI rfl) ?_
          refine rg_end ?_
          refine n_then ?_
          refine wp_seq ?_
          refine rg ?_
          refine st (mvS rfl) ?_
          refine st (y_len Try.underlying54 rfl) ?_
          refine st (mvI rfl) ?_
          refine rg_end ?_
          refine n_then ?_
          refine wp_block ?_
          refine lp (γ := Nat × List (List Int)) [12, 90, 91, 92, 93, 94, 95, 96, 97, 98, 99, 100, 101, 102, 103, 104, 105, 106, 107, 108, 109, 110, 111, 112, 113, 114, 115, 116, 117, 118, 119, 120, 121, 122, 123, 124, 125, 126, 127, 128, 129, 130, 131, 132, 133, 134, 135, 136, 137, 138, 139, 140] (fun ⟨j, M2⟩ => [(90, .int .i64 (j : Int))]) (fun ⟨j, M2⟩ w_ => Out D (D + 1 + N.evs.length) w68 w_ ∧ (j : Int) ≤ N.evs.length ∧ MatW 3 D N.evs.length w_ M2 ∧ Mid N.evs.length (mat M0) k i j (mat M2)) (fun ⟨j, M2⟩ => N.evs.length - j) (0, _) ⟨rfl, trivial⟩ ⟨Out.refl _ _ _, by omega, hM, hmid0⟩ ?_
          rintro ⟨j, M2⟩ hav_ w71 ⟨ho72, hj5, hM, hmid⟩
          have hlp5 := ho72
          have hz73 := ho72.size
          replace hN := hN.out ho72 (by first | omega | (simp only [blk_some, hi1_some] at *; omega))
          replace hT := hT.out ho72 (by first | omega | (simp only [blk_some, hi1_some] at *; omega))
          replace hE := hE.step ho72 (by first | omega | (simp only [blk_some, hi1_some] at *; omega))
          replace hbl4 := hbl4.out ho72 (by first | omega | (simp only [blk_some, hi1_some] at *; omega))
          replace hlp3 := hlp3.step ho72 (by first | omega | (simp only [blk_some, hi1_some] at *; omega))
          replace hlp4 := hlp4.step ho72 (by first | omega | (simp only [blk_some, hi1_some] at *; omega))
          refine wp_seq ?_
          refine rg ?_
          refine st (y_lss rfl rfl) ?_
          refine rg_end ?_
          refine n_then ?_
          refine wp_seq ?_
          refine cnd rfl (fun hc6 => ?_) (fun hc6 => ?_)
          ·
            try simp only [decide_eq_true_eq, decide_eq_false_iff_not, Bool.not_eq_true', Bool.not_eq_false', Bool.and_eq_true, Bool.or_eq_true, Bool.or_eq_false_iff, Bool.cond_true_right, Bool.cond_false_right, Bool.cond_true_left, Bool.cond_false_left, ne_eq, Decidable.not_not, bne_iff_ne, beq_iff_eq, beq_eq_false_iff_ne, Bool.not_true, Bool.not_false] at hc6
            have he1 := hmid.col hfw (by omega) (by omega) (by omega)
            have he2 := hmid.row hfw (by omega) (by omega) (by omega)
            have he3 := hmid.here (by omega) (by omega) (by omega) (by omega)
            have q1 := fw_bd hfw hB (i := i) (j := k) (by omega) (by omega) (by omega) (by omega)
            have q2 := fw_bd hfw hB (i := k) (j := j) (by omega) (by omega) (by omega) (by omega)
            rw [← he1] at q1
            rw [← he2] at q2
            refine wp_skip ?_
            refine n_then ?_
            refine wp_seq ?_
            refine wp_block ?_
            refine wp_seq ?_
            refine rg ?_
            refine st (mvI rfl) ?_
            refine st (asI rfl) ?_
            refine rg_end ?_
            refine n_then ?_
            refine wp_seq ?_
            refine rg ?_
            refine st (mvS rfl) ?_
            refine st (mvI rfl) ?_
            refine st (y_mi hM sl54 rfl rfl (by omega) (by omega)) ?_
            refine st (y_mrow hM na22 rfl (by omega) (by omega)) ?_
            refine st (mvI rfl) ?_
            refine st (y_mri hM sl22 rfl rfl (by omega) (by omega) (by omega) (by omega)) ?_
            refine st (y_mel hM na3 rfl (by omega) (by omega) (by omega) (by omega)) ?_
            refine st (y_neq rfl rfl) ?_
            refine st (mvB rfl) ?_
            refine gspL 101 rfl (fun hg74 => ?_) (fun hg74 => ?_)
            ·
              have hg74n := hg74; try simp only [decide_eq_true_eq, decide_eq_false_iff_not, Bool.not_eq_true', Bool.not_eq_false', Bool.and_eq_true, Bool.or_eq_true, Bool.or_eq_false_iff, Bool.cond_true_right, Bool.cond_false_right, Bool.cond_true_left, Bool.cond_false_left, ne_eq, Decidable.not_not, bne_iff_ne, beq_iff_eq, beq_eq_false_iff_ne, Bool.not_true, Bool.not_false] at hg74n
              refine stg rfl rfl hg74 (mvS rfl) ?_
              refine stg rfl rfl hg74 (mvI rfl) ?_
              refine stg rfl rfl hg74 (y_mi hM sl54 rfl rfl (by omega) (by omega)) ?_
              refine stg rfl rfl hg74 (y_mrow hM na22 rfl (by omega) (by omega)) ?_
              refine stg rfl rfl hg74 (mvI rfl) ?_
              refine stg rfl rfl hg74 (y_mri hM sl22 rfl rfl (by omega) (by omega) (by omega) (by omega)) ?_
              refine stg rfl rfl hg74 (y_mel hM na3 rfl (by omega) (by omega) (by omega) (by omega)) ?_
              refine stg rfl rfl hg74 (y_neq rfl rfl) ?_
              refine st (y_pickT rfl hg74 (v := .bool _) rfl) ?_
              refine rg_end ?_
              refine n_then ?_
              refine cnd rfl (fun hc7 => ?_) (fun hc7 => ?_)
              ·
                try simp only [decide_eq_true_eq, decide_eq_false_iff_not, Bool.not_eq_true', Bool.not_eq_false', Bool.and_eq_true, Bool.or_eq_true, Bool.or_eq_false_iff, Bool.cond_true_right, Bool.cond_false_right, Bool.cond_true_left, Bool.cond_false_left, ne_eq, Decidable.not_not, bne_iff_ne, beq_iff_eq, beq_eq_false_iff_ne, Bool.not_true, Bool.not_false] at hc7
                refine rgD 28 (fun w_ => Ext w71 w_) (fun i => Nat.beq i 27) mixed (by kernel_rfl) ?_
                intro w75 ho76 hs77
                refine ⟨ho76, ?_⟩
                have hx78 := ho76
                refine tn rfl (fun _ hG => mvS rfl) ?_
                refine tn rfl (fun _ hG => mvI rfl) ?_
                refine tn rfl (fun _ hG => y_mi (hM.ext hG) sl54 rfl rfl (by omega) (by omega)) ?_
                refine tn rfl (fun _ hG => y_mrow (hM.ext hG) na22 rfl (by omega) (by omega)) ?_
                refine tn rfl (fun _ hG => mvI rfl) ?_
                refine tn rfl (fun _ hG => mvS rfl) ?_
                refine tn rfl (fun _ hG => mvI rfl) ?_
                refine tn rfl (fun _ hG => y_mi (hM.ext hG) sl54 rfl rfl (by omega) (by omega)) ?_
                refine tn rfl (fun _ hG => y_mrow (hM.ext hG) na22 rfl (by omega) (by omega)) ?_
                refine tn rfl (fun _ hG => mvI rfl) ?_
                refine tn rfl (fun _ hG => y_mri (hM.ext hG) sl22 rfl rfl (by omega) (by omega) (by omega) (by omega)) ?_
                refine tn rfl (fun _ hG => y_mel (hM.ext hG) na3 rfl (by omega) (by omega) (by omega) (by omega)) ?_
                refine tn rfl (fun _ hG => mvS rfl) ?_
                refine tn rfl (fun _ hG => mvI rfl) ?_
                refine tn rfl (fun _ hG => y_mi (hM.ext hG) sl54 rfl rfl (by omega) (by omega)) ?_
                refine tn rfl (fun _ hG => y_mrow (hM.ext hG) na22 rfl (by omega) (by omega)) ?_
                refine tn rfl (fun _ hG => mvI rfl) ?_
                refine tn rfl (fun _ hG => y_mri (hM.ext hG) sl22 rfl rfl (by omega) (by omega) (by omega) (by omega)) ?_
                refine tn rfl (fun _ hG => y_mel (hM.ext hG) na3 rfl (by omega) (by omega) (by omega) (by omega)) ?_
                refine tn rfl (fun _ hG => mvS rfl) ?_
                refine tn rfl (fun _ hG => mvI rfl) ?_
                refine tn rfl (fun _ hG => y_mi (hM.ext hG) sl54 rfl rfl (by omega) (by omega)) ?_
                refine tn rfl (fun _ hG => y_mrow (hM.ext hG) na22 rfl (by omega) (by omega)) ?_
                refine tn rfl (fun _ hG => mvI rfl) ?_
                refine tn rfl (fun _ hG => y_mri (hM.ext hG) sl22 rfl rfl (by omega) (by omega) (by omega) (by omega)) ?_
                refine tn rfl (fun _ hG => y_mel (hM.ext hG) na3 rfl (by omega) (by omega) (by omega) (by omega)) ?_
                refine tn rfl (fun _ hG => y_add rfl rfl (by omega)) ?_
                refine tc rfl cl29 (robust_less_ok _ _ _) rfl ?_
                rintro v83 w79 ⟨rfl, ho80⟩
                have hx84 := hx78.step ho80 (.inl (Nat.le_refl _))
                have hz85 := ho80.size
                refine ⟨hx84, ?_⟩
                refine t_end ?_
                have hz86 := hx84.size
                replace hN := hN.ext hx84
                replace hT := hT.ext hx84
                replace hE := hE.step hx84 (.inl (Nat.le_refl _))
                replace hbl4 := hbl4.ext hx84
                replace hlp3 := hlp3.step hx84 (.inl (Nat.le_refl _))
                replace hlp4 := hlp4.step hx84 (.inl (Nat.le_refl _))
                replace hM := hM.ext hx84
                replace hlp5 := hlp5.step hx84 (.inl (Nat.le_refl _))
                refine st (y_mri hM sl22 rfl rfl (by omega) (by omega) (by omega) (by omega)) ?_
                refine sd0 (d_ms hM sz3 rfl rfl (by omega) (by omega) (by omega) (by omega) ?_)
                intro w87 hs89 ho88 hM'
                have hold_ := hM; clear hM; have hM := hM'; clear hM'
                have hz90 := ho88.size
                replace hN := hN.out ho88 (by first | omega | (simp only [blk_some, hi1_some] at *; omega))
                replace hT := hT.out ho88 (by first | omega | (simp only [blk_some, hi1_some] at *; omega))
                replace hE := hE.step ho88 (by first | omega | (simp only [blk_some, hi1_some] at *; omega))
                replace hbl4 := hbl4.out ho88 (by first | omega | (simp only [blk_some, hi1_some] at *; omega))
                replace hlp3 := hlp3.step ho88 (by first | omega | (simp only [blk_some, hi1_some] at *; omega))
                replace hlp4 := hlp4.step ho88 (by first | omega | (simp only [blk_some, hi1_some] at *; omega))
                replace hlp5 := hlp5.step ho88 (by first | omega | (simp only [blk_some, hi1_some] at *; omega))
                have hmid := hmid.next (M' := mat (mset M2 i j (lessS (mat M2 i j) (mat M2 i k + mat M2 k j)))) (by omega) (by omega) (by omega) (by omega) (fun x y x0 y0 => by rw [mat_mset hold_.len hold_.rlen (by omega) (by omega) (by omega) (by omega) x0 y0]; unfold rlx; rw [← he1, ← he2, ← he3, if_pos (show mat M2 i k ≠ -1 ∧ mat M2 k j ≠ -1 from ⟨by assumption, by assumption⟩)])
                refine rg_end ?_
                refine n_blk ?_
                refine n_then ?_
                refine rg ?_
                refine st (y_add rfl rfl (by omega)) ?_
                refine st (mvI rfl) ?_
                refine rg_end ?_
                exact n_then ⟨(j + 1, _), _, rfl, same_lk rfl (same_h0), ⟨rfl, trivial⟩, ⟨hlp5, by omega, hM, hmid⟩, by first | omega | (dsimp only; omega)⟩
              ·
                try simp only [decide_eq_true_eq, decide_eq_false_iff_not, Bool.not_eq_true', Bool.not_eq_false', Bool.and_eq_true, Bool.or_eq_true, Bool.or_eq_false_iff, Bool.cond_true_right, Bool.cond_false_right, Bool.cond_true_left, Bool.cond_false_left, ne_eq, Decidable.not_not, bne_iff_ne, beq_iff_eq, beq_eq_false_iff_ne, Bool.not_true, Bool.not_false] at hc7
                have hmid := hmid.same (by omega) (by omega) (by omega) (by omega) (by unfold rlx; rw [if_neg]; rw [← he1, ← he2]; rintro ⟨q1, q2⟩; first | exact q1 (by assumption) | exact q2 (by assumption))
                refine wp_skip ?_
                refine n_blk ?_
                refine n_then ?_
                refine rg ?_
                refine st (y_add rfl rfl (by omega)) ?_
                refine st (mvI rfl) ?_
                refine rg_end ?_
                exact n_then ⟨(j + 1, _), _, rfl, same_lk rfl (same_h0), ⟨rfl, trivial⟩, ⟨hlp5, by omega, hM, hmid⟩, by first | omega | (dsimp only; omega)⟩
            ·
              have hg74n := hg74; try simp only [decide_eq_true_eq, decide_eq_false_iff_not, Bool.not_eq_true', Bool.not_eq_false', Bool.and_eq_true, Bool.or_eq_true, Bool.or_eq_false_iff, Bool.cond_true_right, Bool.cond_false_right, Bool.cond_true_left, Bool.cond_false_left, ne_eq, Decidable.not_not, bne_iff_ne, beq_iff_eq, beq_eq_false_iff_ne, Bool.not_true, Bool.not_false] at hg74n
              refine sts rfl rfl hg74 ?_
              refine sts rfl rfl hg74 ?_
              refine sts rfl rfl hg74 ?_
              refine sts rfl rfl hg74 ?_
              refine sts rfl rfl hg74 ?_
              refine sts rfl rfl hg74 ?_
              refine sts rfl rfl hg74 ?_
              refine sts rfl rfl hg74 ?_
              refine st (y_pickF rfl hg74 (v := .bool _) rfl) ?_
              refine rg_end ?_
              refine n_then ?_
              refine cnd rfl (fun hc7 => absurd hc7 (by decide)) (fun hc7 => ?_)
              have hmid := hmid.same (by omega) (by omega) (by omega) (by omega) (by unfold rlx; rw [if_neg]; rw [← he1, ← he2]; rintro ⟨q1, q2⟩; first | exact q1 (by assumption) | exact q2 (by assumption))
              refine wp_skip ?_
              refine n_blk ?_
              refine n_then ?_
              refine rg ?_
              refine st (y_add rfl rfl (by omega)) ?_
              refine st (mvI rfl) ?_
              refine rg_end ?_
              exact n_then ⟨(j + 1, _), _, rfl, same_lk rfl (same_h0), ⟨rfl, trivial⟩, ⟨hlp5, by omega, hM, hmid⟩, by first | omega | (dsimp only; omega)⟩
          ·
            try simp only [decide_eq_true_eq, decide_eq_false_iff_not, Bool.not_eq_true', Bool.not_eq_false', Bool.and_eq_true, Bool.or_eq_true, Bool.or_eq_false_iff, Bool.cond_true_right, Bool.cond_false_right, Bool.cond_true_left, Bool.cond_false_left, ne_eq, Decidable.not_not, bne_iff_ne, beq_iff_eq, beq_eq_false_iff_ne, Bool.not_true, Bool.not_false] at hc6
            refine wp_exit ?_
            refine e_then (e_then (e_blk (?_)))
            refine n_blk ?_
            refine n_then ?_
            refine rg ?_
            refine st (y_add rfl rfl (by omega)) ?_
            refine st (mvI rfl) ?_
            refine rg_end ?_
            exact n_then ⟨(i + 1, _), _, rfl, same_lk rfl (same_hav rfl (same_lk rfl (same_h0))), ⟨rfl, trivial⟩, ⟨hlp4, by omega, hM, mid_wrap hmid (by omega)⟩, by first | omega | (dsimp only; omega)⟩
        ·
          try simp only [decide_eq_true_eq, decide_eq_false_iff_not, Bool.not_eq_true', Bool.not_eq_false', Bool.and_eq_true, Bool.or_eq_true, Bool.or_eq_false_iff, Bool.cond_true_right, Bool.cond_false_right, Bool.cond_true_left, Bool.cond_false_left, ne_eq, Decidable.not_not, bne_iff_ne, beq_iff_eq, beq_eq_false_iff_ne, Bool.not_true, Bool.not_false] at hc5
          refine wp_exit ?_
          refine e_then (e_then (e_blk (?_)))
          refine n_blk ?_
          refine n_then ?_
          refine rg ?_
          refine st (y_add rfl rfl (by omega)) ?_
          refine st (mvI rfl) ?_
          refine rg_end ?_
          exact n_then ⟨(k + 1, _), _, rfl, same_lk rfl (same_hav rfl (same_lk rfl (same_h0))), ⟨rfl, trivial⟩, ⟨hlp3, by omega, hM, fw_next hfw hmid0 hg.ok rfl (by omega) (by omega)⟩, by first | omega | (dsimp only; omega)⟩
      ·
        try simp only [decide_eq_true_eq, decide_eq_false_iff_not, Bool.not_eq_true', Bool.not_eq_false', Bool.and_eq_true, Bool.or_eq_true, Bool.or_eq_false_iff, Bool.cond_true_right, Bool.cond_false_right, Bool.cond_true_left, Bool.cond_false_left, ne_eq, Decidable.not_not, bne_iff_ne, beq_iff_eq, beq_eq_false_iff_ne, Bool.not_true, Bool.not_false] at hc4
        have hkn3 : k = N.evs.length := by omega
        subst hkn3
        have hdist := hfw.dist hg.ok rfl (pow_bound N.evs.length (by omega))
        refine wp_exit ?_
        refine e_then (e_then (e_blk (?_)))
        refine n_then ?_
        refine wp_seq ?_
        refine rg ?_
        refine st (mvS rfl) ?_
        refine st (asS rfl) ?_
        refine rg_end ?_
        refine n_then ?_
        refine wp_ret ?_
        refine ret1 (v := (.slice _ _ _)) Try.results28 rfl ?_
        exact ⟨D, _, rfl, by omega, by omega, hM, hdist, hE⟩
end Go.Proofs.Ytggaekjnpbicnaa
