/-
  Walks of the functions, printed by a program out of the code and the loops' relations.
-/
import Derived.Test.YtgekfafangcggaaWkG
import Derived.Test.YtgekfafangcggaaProg
import Derived.KernelRfl
import Derived.Test.YtgekfafangcggaaU3
import Derived.Test.YtgekfafangcggaaWkN
namespace Go.Proofs.Ytgekfafangcggaa
open Go.Wk Go.RowKit
set_option linter.unusedVariables false
set_option linter.unusedSimpArgs false
theorem bsl22_3 (a0 : Int) (a1 : Int) (a2 : Int) (w : World) : (Instr.buildSlice 22 3 [(0, (.int .i64 a0)), (1, (.int .i64 a1)), (2, (.int .i64 a2))].toArray).run Try.prog w = .ok (.slice (some ⟨w.heap.size, 0, none⟩) 3 3) (w.alloc (.cells [(.int .i64 a0), (.int .i64 a1), (.int .i64 a2)].toArray 3)) := by kernel_rfl
theorem bsl54_4 (d0 : Option Addr) (l0 : Nat) (c0 : Nat) (d1 : Option Addr) (l1 : Nat) (c1 : Nat) (d2 : Option Addr) (l2 : Nat) (c2 : Nat) (d3 : Option Addr) (l3 : Nat) (c3 : Nat) (w : World) : (Instr.buildSlice 54 4 [(0, (.slice d0 l0 c0)), (1, (.slice d1 l1 c1)), (2, (.slice d2 l2 c2)), (3, (.slice d3 l3 c3))].toArray).run Try.prog w = .ok (.slice (some ⟨w.heap.size, 0, none⟩) 4 4) (w.alloc (.cells [(.slice d0 l0 c0), (.slice d1 l1 c1), (.slice d2 l2 c2), (.slice d3 l3 c3)].toArray 22)) := by kernel_rfl
theorem cl28 : Callable Try.prog 28 := ⟨Try.call28⟩
theorem cl29 : Callable Try.prog 29 := ⟨Try.call29⟩
theorem sl54 : SliceOf Try.prog 54 22 1 := ⟨Try.underlying54, Try.sizeOf22⟩

theorem el_app {l r : List Int} {k : Int} (h : 0 ≤ k) : el (l ++ r) ((l.length : Int) + k) = el r k := by
  obtain ⟨j, rfl⟩ := Int.eq_ofNat_of_zero_le h
  have : ((l.length : Int) + (j : Int)).toNat = l.length + j := by omega
  simp [el, this, List.getElem?_append_right]
theorem sl_pre {lo hi : Nat} {w : World} {ad : Option Addr} {l r : List Int} (h : Ints lo hi w ad (l ++ r)) : Ints lo hi w ad l := by
  have := Sl.take h l.length
  rwa [List.take_left] at this

set_option maxRecDepth 100000 in
theorem keep_Spare_ok (l : List Int) (al : Option Addr) (cl ll hl : Nat) (fl : Int) (w : World) (hL : Ints ll hl w al l) (hn : (l.length : Int) ≤ 1000000) : Cal Try.prog 28 [.slice al l.length cl, .int .i64 fl] w (fun v w' => ∃ ad c, v = .slice ad l.length (l.length + 3) ∧ Ow 3 Wk.encI 1 w.heap.size w'.heap.size w' ad c (l ++ [fl, fl, fl]) ∧ Ext w w') := by
  replace hL := Ints.full hL
  have hE : Out 0 0 w w := Out.refl _ _ w
  refine enter Try.func28 rfl Try.ntmps28 rfl ?_
  refine wp_seq ?_
  refine rg ?_
  refine st (asS rfl) ?_
  refine rg_end ?_
  refine n_then ?_
  refine wp_seq ?_
  refine rg ?_
  refine sd (d_bs0 (sz := 1) (lo := w.heap.size) (enc := Wk.encI) (fun _ => rfl) (bsl22_0 _) rfl (by omega) ?_)
  intro b0 w1 hbb0 hs3 ho2 hm
  have hz5 := ho2.size
  replace hL := hL.ext ho2
  replace hE := hE.step ho2 (.inl (Nat.le_refl _))
  refine st (mvS rfl) ?_
  have hrhm := hm.rng
  refine sd (d_appN (xs := l) hm sl22 infoz3 (by decide) rfl rfl rfl (rfl) (hL) (fun _ => rfl) (by simp; unfold maxLen; omega) (by simp; omega) (by omega) (by omega) ?_)
  intro ad1 cc1 w6 ho7 hm'
  have hs8 := ho7.size
  clear hm; have hm := hm'; clear hm'
  have hz11 := ho7.size
  replace hL := hL.out ho7 (by first | omega | (simp only [blk_some, hi1_some] at *; omega))
  replace hE := hE.step ho7 (by first | omega | (simp only [blk_some, hi1_some] at *; omega))
  refine st (asS rfl) ?_
  refine rg_end ?_
  refine n_then ?_
  refine wp_seq ?_
  refine rg ?_
  refine st (mvS rfl) ?_
  refine st (mvI rfl) ?_
  refine st (mvI rfl) ?_
  refine st (mvI rfl) ?_
  refine sd (d_bs (bsl22_3 _ _ _ _) rfl ?_)
  intro b1 w12 hbb1 hs14 ho13 hb1
  have hz15 := ho13.size
  replace hL := hL.ext ho13
  replace hE := hE.step ho13 (.inl (Nat.le_refl _))
  replace hm := hm.ext ho13
  have hrhm := hm.rng
  refine sd (d_app (xs := [fl, fl, fl]) hm sl22 infoz3 (by decide) rfl rfl rfl rfl (hb1) (fun _ => rfl) (by simp; unfold maxLen; omega) (by simp; omega) (by omega) (by omega) ?_)
  intro ad2 cc2 w16 ho17 hm'
  have hs18 := ho17.size
  clear hm; have hm := hm'; clear hm'
  have hz21 := ho17.size
  replace hL := hL.out ho17 (by first | omega | (simp only [blk_some, hi1_some] at *; omega))
  replace hE := hE.step ho17 (by first | omega | (simp only [blk_some, hi1_some] at *; omega))
  simp only [List.nil_append] at hm ⊢
  have hcl := hm.lenLe
  simp only [List.length_append, List.length_cons, List.length_nil] at hcl
  refine st (asS rfl) ?_
  refine rg_end ?_
  refine n_then ?_
  refine wp_seq ?_
  refine rg ?_
  refine st (mvS rfl) ?_
  refine st (mvS rfl) ?_
  refine st (y_len Try.underlying22 rfl) ?_
  refine st (mvS rfl) ?_
  refine st (y_len Try.underlying22 rfl) ?_
  refine st (y_slhm sl22 rfl rfl rfl (by omega) (by simp; omega) (by simp; omega)) ?_
  refine st (asS rfl) ?_
  refine rg_end ?_
  refine n_then ?_
  refine wp_ret ?_
  refine ret1 (v := (.slice _ _ _)) Try.results28 rfl ?_
  exact ⟨ad2, cc2, by simp; omega, hm, hE⟩

set_option maxHeartbeats 1000000 in
set_option maxRecDepth 100000 in
theorem keep_Kept_ok (l : List Int) (ad al : Option Addr) (cl la ha_ ll hl : Nat) (fl : Int) (w : World) (hF : Ints la ha_ w ad (l ++ [fl, fl, fl])) (hL : Ints ll hl w al l) (hn : (l.length : Int) ≤ 1000000) : Cal Try.prog 29 [.slice ad l.length (l.length + 3), .slice al l.length cl, .int .i64 fl] w (fun v w' => v = .bool true ∧ Ext w w') := by
  replace hF := Ints.full hF
  replace hL := Ints.full hL
  have hP := sl_pre hF
  have e0 : el (l ++ [fl, fl, fl]) (l.length : Int) = fl := by
    have := el_app (l := l) (r := [fl, fl, fl]) (k := 0) (by omega)
    rwa [Int.add_zero] at this
  have e1 : el (l ++ [fl, fl, fl]) ((l.length : Int) + 1) = fl := el_app (by omega)
  have e2 : el (l ++ [fl, fl, fl]) ((l.length : Int) + 2) = fl := el_app (by omega)
  have hE : Out 0 0 w w := Out.refl _ _ w
  refine enter Try.func29 rfl Try.ntmps29 rfl ?_
  refine wp_seq ?_
  refine rg ?_
  refine st (asB rfl) ?_
  refine rg_end ?_
  refine n_then ?_
  refine wp_seq ?_
  refine wp_seq ?_
  refine rg ?_
  refine st (mvS rfl) ?_
  refine st (mvS rfl) ?_
  refine sc cl19 (keep_Same_int_ok l l _ _ _ _ _ _ _ _ _ hP hL (by omega)) rfl ?_
  rintro v5 w1 ⟨rfl, ho2⟩
  have hz6 := ho2.size
  replace hP := hP.ext ho2
  replace hF := hF.ext ho2
  replace hL := hL.ext ho2
  replace hE := hE.step ho2 (.inl (Nat.le_refl _))
  refine st (y_not rfl) ?_
  refine st (mvB rfl) ?_
  refine stg rfl rfl (congrArg Bool.not (decide_eq_true rfl)) (mvS rfl) ?_
  refine stg rfl rfl (congrArg Bool.not (decide_eq_true rfl)) (y_cap Try.underlying22 rfl rfl) ?_
  refine stg rfl rfl (congrArg Bool.not (decide_eq_true rfl)) (mvS rfl) ?_
  refine stg rfl rfl (congrArg Bool.not (decide_eq_true rfl)) (y_len Try.underlying22 rfl) ?_
  refine stg rfl rfl (congrArg Bool.not (decide_eq_true rfl)) (y_add rfl rfl (by omega)) ?_
  refine stg rfl rfl (congrArg Bool.not (decide_eq_true rfl)) (y_lss rfl rfl) ?_
  refine st (y_pickF rfl (congrArg Bool.not (decide_eq_true rfl)) (v := .bool _) rfl) ?_
  refine rg_end ?_
  refine n_then ?_
  refine cnd rfl (fun hc0 => absurd ((decide_eq_false (by omega)).symm.trans hc0) (by decide)) (fun hc0 => ?_)
  refine wp_skip ?_
  refine n_then ?_
  refine wp_seq ?_
  refine rg ?_
  refine st (mvS rfl) ?_
  refine st (mvS rfl) ?_
  refine st (y_len Try.underlying22 rfl) ?_
  refine st (y_add rfl rfl (by omega)) ?_
  refine st (y_slh sl22 rfl rfl (by omega) (by omega)) ?_
  refine st (asS rfl) ?_
  refine rg_end ?_
  refine n_then ?_
  refine wp_seq ?_
  refine rg ?_
  refine st (mvS rfl) ?_
  refine st (mvS rfl) ?_
  refine st (y_len Try.underlying22 rfl) ?_
  refine st (y_ix hF sl22 rfl (by simp; try omega) rfl (by omega) (by simp; try omega)) ?_
  refine st (y_le hF na3 rfl (by omega) (by simp; try omega) rfl) ?_
  refine st (mvI rfl) ?_
  refine st (y_eql rfl rfl) ?_
  refine st (mvB rfl) ?_
  refine stg rfl rfl (decide_eq_true e0) (mvS rfl) ?_
  refine stg rfl rfl (decide_eq_true e0) (mvS rfl) ?_
  refine stg rfl rfl (decide_eq_true e0) (y_len Try.underlying22 rfl) ?_
  refine stg rfl rfl (decide_eq_true e0) (y_add rfl rfl (by omega)) ?_
  refine stg rfl rfl (decide_eq_true e0) (y_ix hF sl22 rfl (by simp; try omega) rfl (by omega) (by simp; try omega)) ?_
  refine stg rfl rfl (decide_eq_true e0) (y_le hF na3 rfl (by omega) (by simp; try omega) rfl) ?_
  refine stg rfl rfl (decide_eq_true e0) (mvI rfl) ?_
  refine stg rfl rfl (decide_eq_true e0) (y_eql rfl rfl) ?_
  refine st (y_pickT rfl (decide_eq_true e0) (v := .bool _) rfl) ?_
  refine st (mvB rfl) ?_
  refine stg rfl rfl (decide_eq_true e1) (mvS rfl) ?_
  refine stg rfl rfl (decide_eq_true e1) (mvS rfl) ?_
  refine stg rfl rfl (decide_eq_true e1) (y_len Try.underlying22 rfl) ?_
  refine stg rfl rfl (decide_eq_true e1) (y_add rfl rfl (by omega)) ?_
  refine stg rfl rfl (decide_eq_true e1) (y_ix hF sl22 rfl (by simp; try omega) rfl (by omega) (by simp; try omega)) ?_
  refine stg rfl rfl (decide_eq_true e1) (y_le hF na3 rfl (by omega) (by simp; try omega) rfl) ?_
  refine stg rfl rfl (decide_eq_true e1) (mvI rfl) ?_
  refine stg rfl rfl (decide_eq_true e1) (y_eql rfl rfl) ?_
  refine st (y_pickT rfl (decide_eq_true e1) (v := .bool _) rfl) ?_
  refine st (asB rfl) ?_
  refine rg_end ?_
  refine n_then ?_
  refine wp_ret ?_
  refine ret1 (v := (.bool _)) Try.results29 rfl ?_
  exact ⟨congrArg Value.bool (decide_eq_true e2), hE⟩

set_option maxHeartbeats 2000000 in
set_option maxRecDepth 100000 in
theorem law16_SimplexKeepsArguments_ok (a0 : Option Addr) (c0 : Nat) (l0 : List Int) (a1 : Option Addr) (c1 : Nat) (l1 : List Int) (out into B : Int) (w : World) (hL0 : Ints 0 w.heap.size w a0 l0) (hl0 : (l0.length : Int) ≤ 9223372036854775807) (hL1 : Ints 0 w.heap.size w a1 l1) (hl1 : (l1.length : Int) ≤ 9223372036854775807)  : Cal Try.prog 8 [.slice a0 l0.length c0, .slice a1 l1.length c1, .int .i64 out, .int .i64 into, .int .i64 B] w (fun v w' => v = .bool true ∧ Ext w w') := by
  have hE : Out 0 0 w w := Out.refl _ _ w
  refine enter Try.func8 rfl Try.ntmps8 rfl ?_
  refine wp_seq ?_
  refine rg ?_
  refine st (asB rfl) ?_
  refine rg_end ?_
  refine n_then ?_
  refine wp_seq ?_
  refine rg ?_
  refine st (mvS rfl) ?_
  refine sc cl20 (law16_wide_ok _ _ _ _ hL0 hl0) rfl ?_
  rintro v5 w1 ⟨N, A, rfl, hsm, hwd, hN, ho2⟩
  have hok := hsm.1
  have hac := hok.ac
  have hev := hok.ev
  have hp2 := hok.p2
  have hp7 := hok.p7
  have hz6 := ho2.size
  replace hL0 := hL0.ext ho2
  replace hL1 := hL1.ext ho2
  replace hE := hE.step ho2 (.inl (Nat.le_refl _))
  refine sd (d_allocA zer26 ?_)
  intro b11 w7 hbb11 hs9 ho8 hb11
  have hz10 := ho8.size
  replace hL0 := hL0.ext ho8
  replace hL1 := hL1.ext ho8
  replace hE := hE.step ho8 (.inl (Nat.le_refl _))
  replace hN := hN.ext ho8
  refine sd0 (d_stN hb11 rfl rfl sz26 rfl rfl ?_)
  intro w11 hs13 ho12 hb11'
  clear hb11; have hb11 := hb11'; clear hb11'
  have hz14 := ho12.size
  replace hL0 := hL0.out ho12 (by first | omega | (simp only [blk_some, hi1_some] at *; omega))
  replace hL1 := hL1.out ho12 (by first | omega | (simp only [blk_some, hi1_some] at *; omega))
  replace hE := hE.step ho12 (by first | omega | (simp only [blk_some, hi1_some] at *; omega))
  replace hN := hN.out ho12 (by first | omega | (simp only [blk_some, hi1_some] at *; omega))
  refine rg_end ?_
  refine n_then ?_
  refine wp_seq ?_
  refine rgD 4 (fun w_ => Ext w11 w_) (fun i => Nat.beq i 1) mixed (by kernel_rfl) ?_
  intro w15 ho16 hs17
  refine ⟨ho16, ?_⟩
  have hx18 := ho16
  refine tn rfl (fun _ hG => y_lbN (hb11.ext hG) agg26 rfl) ?_
  refine tc rfl cl13 (ref11_TreeF_ok N A _ _ _ (hN.ext hx18) hok) rfl ?_
  rintro v23 w19 ⟨ar1, cr1, tree1, rfl, hTr1, hfo1, htl1, hcap1, ho20⟩
  have hx24 := hx18.step ho20 (.inl (Nat.le_refl _))
  have hz25 := ho20.size
  refine ⟨hx24, ?_⟩
  refine tn rfl (fun _ hG => y_lbN (hb11.ext hG) agg26 rfl) ?_
  refine tn rfl (fun _ hG => mvS rfl) ?_
  refine t_end ?_
  have hz26 := hx24.size
  replace hL0 := hL0.ext hx24
  replace hL1 := hL1.ext hx24
  replace hE := hE.step hx24 (.inl (Nat.le_refl _))
  replace hN := hN.ext hx24
  replace hb11 := hb11.ext hx24
  refine sc cl21 (keep_Times_ok N A _ _ _ _ _ _ _ _ hN hL1 hl1 (by omega) (by omega)) rfl ?_
  rintro v31 w27 ⟨ax, cx, x, rfl, hX, hxl, hxr, ho28⟩
  have hg : GoodT N x := ⟨hok, hxl, hxr⟩
  have hft := wide_feas hwd hg
  have hz32 := ho28.size
  replace hL0 := hL0.ext ho28
  replace hL1 := hL1.ext ho28
  replace hE := hE.step ho28 (.inl (Nat.le_refl _))
  replace hN := hN.ext ho28
  replace hb11 := hb11.ext ho28
  replace hTr1 := hTr1.ext ho28
  refine st (asS rfl) ?_
  refine st (asS rfl) ?_
  refine rg_end ?_
  refine n_then ?_
  refine wp_seq ?_
  refine rg ?_
  refine st (mvS rfl) ?_
  refine sc cl28 (keep_Spare_ok tree1 _ _ _ _ (-7) _ hTr1 (by omega)) rfl ?_
  rintro v37 w33 ⟨aA_, cA_, rfl, hA_, ho34⟩
  have hA_t := sl_pre (Ow.sl hA_)
  have hz38 := ho34.size
  replace hL0 := hL0.ext ho34
  replace hL1 := hL1.ext ho34
  replace hE := hE.step ho34 (.inl (Nat.le_refl _))
  replace hN := hN.ext ho34
  replace hb11 := hb11.ext ho34
  replace hTr1 := hTr1.ext ho34
  replace hX := hX.ext ho34
  refine st (mvS rfl) ?_
  refine sc cl28 (keep_Spare_ok x _ _ _ _ (-7) _ hX (by omega)) rfl ?_
  rintro v43 w39 ⟨aB_, cB_, rfl, hB_, ho40⟩
  have hB_t := sl_pre (Ow.sl hB_)
  have hz44 := ho40.size
  replace hL0 := hL0.ext ho40
  replace hL1 := hL1.ext ho40
  replace hE := hE.step ho40 (.inl (Nat.le_refl _))
  replace hN := hN.ext ho40
  replace hb11 := hb11.ext ho40
  replace hTr1 := hTr1.ext ho40
  replace hX := hX.ext ho40
  replace hA_ := hA_.ext ho40
  replace hA_t := hA_t.ext ho40
  refine st (asS rfl) ?_
  refine st (asS rfl) ?_
  refine rg_end ?_
  refine n_then ?_
  refine wp_seq ?_
  refine rg ?_
  refine st (y_fld fld26_2 rfl) ?_
  refine st (y_lb hb11 na24 rfl rfl) ?_
  refine st (y_len Try.underlying24 rfl) ?_
  refine st (y_max rfl rfl) ?_
  refine st (asI rfl) ?_
  refine rg_end ?_
  refine n_then ?_
  refine wp_seq ?_
  obtain ⟨z5, hz5⟩ : ∃ z, z = w39.heap.size := ⟨_, rfl⟩
  have hA_r := hA_.rng
  have hB_r := hB_.rng
  refine rgD 16 (fun w_ => Ext w39 w_) (fun i => Nat.beq i 5 || Nat.beq i 8 || Nat.beq i 9) mixed (by kernel_rfl) ?_
  intro w45 ho46 hs47
  refine ⟨ho46, ?_⟩
  have hx48 := ho46
  refine tn rfl (fun _ hG => y_lbN (hb11.ext hG) agg26 rfl) ?_
  refine tn rfl (fun _ hG => mvS rfl) ?_
  refine tn rfl (fun _ hG => mvS rfl) ?_
  refine tn rfl (fun _ hG => mvI rfl) ?_
  refine tn rfl (fun _ hG => mvI rfl) ?_
  refine tc rfl cl15 (keep_Pick_ok _ _ _ (by omega) (by omega)) rfl ?_
  rintro v53 w49 ⟨rfl, ho50⟩
  have hp1 := pick_rng out (max 1 ((N.acts.length : Nat) : Int)) (by omega)
  have hx54 := hx48.step ho50 (.inl (Nat.le_refl _))
  have hz55 := ho50.size
  refine ⟨hx54, ?_⟩
  refine tn rfl (fun _ hG => mvI rfl) ?_
  refine tn rfl (fun _ hG => mvI rfl) ?_
  refine tc rfl cl15 (keep_Pick_ok _ _ _ (by omega) (by omega)) rfl ?_
  rintro v60 w56 ⟨rfl, ho57⟩
  have hp2 := pick_rng into (max 1 ((N.acts.length : Nat) : Int)) (by omega)
  have hx61 := hx54.step ho57 (.inl (Nat.le_refl _))
  have hz62 := ho57.size
  refine ⟨hx61, ?_⟩
  refine tc rfl cl17 (simplex_Move_ok N A _ _ tree1 _ _ _ _ x _ _ _ _ (pick out (max 1 ((N.acts.length : Nat) : Int))) (pick into (max 1 ((N.acts.length : Nat) : Int))) _ (hN.ext hx61) (hA_t.ext hx61) (by first | omega | decide) (hB_t.ext hx61)) rfl ?_
  rintro v67 w63 ⟨af3, cf3, f3, ax3, cx3, T3, e3, rfl, hF3, hX3, hd3, hr3, ho64⟩
  have hF3r := hF3.rng
  have hX3r := hX3.rng
  have hx68 := hx61.step ho64 (.inl (Nat.le_refl _))
  have hz69 := ho64.size
  refine ⟨hx68, ?_⟩
  refine tn rfl (fun _ hG => mvT rfl) ?_
  refine tn rfl (fun _ hG => y_ext rfl rfl) ?_
  refine tn rfl (fun _ hG => y_ext rfl rfl) ?_
  refine tn rfl (fun _ hG => y_ext rfl rfl) ?_
  refine tn rfl (fun _ hG => asS rfl) ?_
  refine tn rfl (fun _ hG => asS rfl) ?_
  refine t_end ?_
  have hz70 := hx68.size
  replace hL0 := hL0.ext hx68
  replace hL1 := hL1.ext hx68
  replace hE := hE.step hx68 (.inl (Nat.le_refl _))
  replace hN := hN.ext hx68
  replace hb11 := hb11.ext hx68
  replace hTr1 := hTr1.ext hx68
  replace hX := hX.ext hx68
  replace hA_ := hA_.ext hx68
  replace hA_t := hA_t.ext hx68
  replace hB_ := hB_.ext hx68
  replace hB_t := hB_t.ext hx68
  refine st (asI rfl) ?_
  refine rg_end ?_
  refine n_then ?_
  refine wp_seq ?_
  refine rgD 14 (fun w_ => Ext w63 w_) (fun i => Nat.beq i 4 || Nat.beq i 5) mixed (by kernel_rfl) ?_
  intro w71 ho72 hs73
  refine ⟨ho72, ?_⟩
  have hx74 := ho72
  refine tn rfl (fun _ hG => y_lbN (hb11.ext hG) agg26 rfl) ?_
  refine tn rfl (fun _ hG => mvS rfl) ?_
  refine tn rfl (fun _ hG => mvS rfl) ?_
  refine tn rfl (fun _ hG => mvI rfl) ?_
  refine tc rfl cl15 (keep_Pick_ok _ _ _ (by omega) (by omega)) rfl ?_
  rintro v79 w75 ⟨rfl, ho76⟩
  have hp3 := pick_rng B 5 (by omega)
  have hx80 := hx74.step ho76 (.inl (Nat.le_refl _))
  have hz81 := ho76.size
  refine ⟨hx80, ?_⟩
  refine tc rfl cl25 (simplex_Solve_ok N A _ _ tree1 _ _ _ _ x _ _ _ _ (pick B 5) _ (hN.ext hx80) (hA_t.ext hx80) (by omega) (hB_t.ext hx80)) rfl ?_
  rintro v86 w82 ⟨af4, cf4, f4, ax4, cx4, T4, m4, e4, rfl, hF4, hX4, hdj4, hr4, ho83⟩
  have hF4r := hF4.rng
  have hX4r := hX4.rng
  have he4 : e4 = 0 := (hr4.c hfo1 hft (by omega)).2.2.2
  subst he4
  have hx87 := hx80.step ho83 (.inl (Nat.le_refl _))
  have hz88 := ho83.size
  refine ⟨hx87, ?_⟩
  refine tn rfl (fun _ hG => mvT rfl) ?_
  refine tn rfl (fun _ hG => y_ext rfl rfl) ?_
  refine tn rfl (fun _ hG => y_ext rfl rfl) ?_
  refine tn rfl (fun _ hG => y_ext rfl rfl) ?_
  refine tn rfl (fun _ hG => y_ext rfl rfl) ?_
  refine tn rfl (fun _ hG => asS rfl) ?_
  refine tn rfl (fun _ hG => asS rfl) ?_
  refine tn rfl (fun _ hG => asI rfl) ?_
  refine t_end ?_
  have hz89 := hx87.size
  replace hL0 := hL0.ext hx87
  replace hL1 := hL1.ext hx87
  replace hE := hE.step hx87 (.inl (Nat.le_refl _))
  replace hN := hN.ext hx87
  replace hb11 := hb11.ext hx87
  replace hTr1 := hTr1.ext hx87
  replace hX := hX.ext hx87
  replace hA_ := hA_.ext hx87
  replace hA_t := hA_t.ext hx87
  replace hB_ := hB_.ext hx87
  replace hB_t := hB_t.ext hx87
  replace hF3 := hF3.ext hx87
  replace hX3 := hX3.ext hx87
  refine st (asI rfl) ?_
  refine rg_end ?_
  refine n_then ?_
  refine wp_seq ?_
  refine wp_seq ?_
  refine rg ?_
  refine st (mvS rfl) ?_
  refine st (mvS rfl) ?_
  refine st (mvS rfl) ?_
  refine st (mvS rfl) ?_
  refine sd (d_bs (bsl54_4 _ _ _ _ _ _ _ _ _ _ _ _ _) rfl ?_)
  intro bq w90 hbbq hs92 ho91 hbq
  have hq : Sl encR4 1 bq (bq + 1) w90 (some ⟨bq, 0, none⟩) [(af3, cf3, f3.length), (ax3, cx3, T3.length), (af4, cf4, f4.length), (ax4, cx4, T4.length)] := Blk.sl (l := [(af3, cf3, f3.length), (ax3, cx3, T3.length), (af4, cf4, f4.length), (ax4, cx4, T4.length)]) hbq (fun _ => rfl) (Nat.le_refl _) (Nat.lt_succ_self _)
  have hz93 := ho91.size
  replace hL0 := hL0.ext ho91
  replace hL1 := hL1.ext ho91
  replace hE := hE.step ho91 (.inl (Nat.le_refl _))
  replace hN := hN.ext ho91
  replace hb11 := hb11.ext ho91
  replace hTr1 := hTr1.ext ho91
  replace hX := hX.ext ho91
  replace hA_ := hA_.ext ho91
  replace hA_t := hA_t.ext ho91
  replace hB_ := hB_.ext ho91
  replace hB_t := hB_t.ext ho91
  replace hF3 := hF3.ext ho91
  replace hX3 := hX3.ext ho91
  replace hF4 := hF4.ext ho91
  replace hX4 := hX4.ext ho91
  have hR0 : R4 3 z5 bq w90 [(af3, cf3, f3.length), (ax3, cx3, T3.length), (af4, cf4, f4.length), (ax4, cx4, T4.length)] := by
    refine ⟨fun i hi => ?_, fun i j hi hj hij => ?_⟩
    · match i, hi with
      | 0, _ => exact ⟨f3, rfl, (hF3.lower (by omega)).wide (by omega)⟩
      | 1, _ => exact ⟨T3, rfl, (hX3.lower (by omega)).wide (by omega)⟩
      | 2, _ => exact ⟨f4, rfl, (hF4.lower (by omega)).wide (by omega)⟩
      | 3, _ => exact ⟨T4, rfl, (hX4.lower (by omega)).wide (by omega)⟩
    · match i, j, hi, hj with
      | 0, 0, _, _ => exact absurd rfl hij
      | 1, 1, _, _ => exact absurd rfl hij
      | 2, 2, _, _ => exact absurd rfl hij
      | 3, 3, _, _ => exact absurd rfl hij
      | 0, 1, _, _ => show hi1 af3 ≤ blk ax3 ∨ hi1 ax3 ≤ blk af3; omega
      | 0, 2, _, _ => show hi1 af3 ≤ blk af4 ∨ hi1 af4 ≤ blk af3; omega
      | 0, 3, _, _ => show hi1 af3 ≤ blk ax4 ∨ hi1 ax4 ≤ blk af3; omega
      | 1, 0, _, _ => show hi1 ax3 ≤ blk af3 ∨ hi1 af3 ≤ blk ax3; omega
      | 1, 2, _, _ => show hi1 ax3 ≤ blk af4 ∨ hi1 af4 ≤ blk ax3; omega
      | 1, 3, _, _ => show hi1 ax3 ≤ blk ax4 ∨ hi1 ax4 ≤ blk ax3; omega
      | 2, 0, _, _ => show hi1 af4 ≤ blk af3 ∨ hi1 af3 ≤ blk af4; omega
      | 2, 1, _, _ => show hi1 af4 ≤ blk ax3 ∨ hi1 ax3 ≤ blk af4; omega
      | 2, 3, _, _ => show hi1 af4 ≤ blk ax4 ∨ hi1 ax4 ≤ blk af4; omega
      | 3, 0, _, _ => show hi1 ax4 ≤ blk af3 ∨ hi1 af3 ≤ blk ax4; omega
      | 3, 1, _, _ => show hi1 ax4 ≤ blk ax3 ∨ hi1 ax3 ≤ blk ax4; omega
      | 3, 2, _, _ => show hi1 ax4 ≤ blk af4 ∨ hi1 af4 ≤ blk ax4; omega
  have hrb : ∀ i : Nat, i < 4 → (el [(af3, cf3, f3.length), (ax3, cx3, T3.length), (af4, cf4, f4.length), (ax4, cx4, T4.length)] (i : Int)).2.2 ≤ 512 := fun i hi => by
    have h1 := hr3.len
    have h2 := hr4.len
    match i, hi with
    | 0, _ => exact h1.1
    | 1, _ => exact h1.2
    | 2, _ => exact h2.1
    | 3, _ => exact h2.2
  obtain ⟨rows, hrows⟩ : ∃ r, r = [(af3, cf3, f3.length), (ax3, cx3, T3.length), (af4, cf4, f4.length), (ax4, cx4, T4.length)] := ⟨_, rfl⟩
  rw [← hrows] at hR0 hq hrb
  have hrl : rows.length = 4 := by rw [hrows]; rfl
  refine st (y_len Try.underlying54 rfl) ?_
  refine st (mvI rfl) ?_
  refine rg_end ?_
  refine n_then ?_
  refine wp_block ?_
  refine lp (γ := Nat) [25, 26, 73, 74, 75, 76, 77, 78, 79, 80, 81, 82, 83, 84, 85, 86] (fun i => [(73, .int .i64 (i : Int))]) (fun i w_ => Out z5 bq w90 w_ ∧ (i : Int) ≤ 4 ∧ R4 3 z5 bq w_ rows) (fun i => 4 - i) 0 ⟨rfl, trivial⟩ ⟨Out.refl _ _ _, by omega, hR0⟩ ?_
  rintro i hav_ w94 ⟨ho95, hi_, hR4⟩
  have hlp0 := ho95
  have hz96 := ho95.size
  replace hL0 := hL0.out ho95 (by first | omega | (simp only [blk_some, hi1_some] at *; omega))
  replace hL1 := hL1.out ho95 (by first | omega | (simp only [blk_some, hi1_some] at *; omega))
  replace hE := hE.step ho95 (by first | omega | (simp only [blk_some, hi1_some] at *; omega))
  replace hN := hN.out ho95 (by first | omega | (simp only [blk_some, hi1_some] at *; omega))
  replace hb11 := hb11.out ho95 (by first | omega | (simp only [blk_some, hi1_some] at *; omega))
  replace hTr1 := hTr1.out ho95 (by first | omega | (simp only [blk_some, hi1_some] at *; omega))
  replace hX := hX.out ho95 (by first | omega | (simp only [blk_some, hi1_some] at *; omega))
  have hrnhA_ := hA_.rng
  replace hA_ := hA_.out ho95 (by first | omega | (simp only [blk_some, hi1_some] at *; omega))
  replace hA_t := hA_t.out ho95 (by first | omega | (simp only [blk_some, hi1_some] at *; omega))
  have hrnhB_ := hB_.rng
  replace hB_ := hB_.out ho95 (by first | omega | (simp only [blk_some, hi1_some] at *; omega))
  replace hB_t := hB_t.out ho95 (by first | omega | (simp only [blk_some, hi1_some] at *; omega))
  replace hq := hq.out ho95 (by first | omega | (simp only [blk_some, hi1_some] at *; omega))
  refine wp_seq ?_
  refine rg ?_
  refine st (y_lss rfl rfl) ?_
  refine rg_end ?_
  refine n_then ?_
  refine wp_seq ?_
  refine cnd rfl (fun hc0 => ?_) (fun hc0 => ?_)
  ·
    try simp only [decide_eq_true_eq, decide_eq_false_iff_not, Bool.not_eq_true', Bool.not_eq_false', Bool.and_eq_true, Bool.or_eq_true, Bool.or_eq_false_iff, Bool.cond_true_right, Bool.cond_false_right, Bool.cond_true_left, Bool.cond_false_left, ne_eq, Decidable.not_not, bne_iff_ne, beq_iff_eq, beq_eq_false_iff_ne, Bool.not_true, Bool.not_false] at hc0
    obtain ⟨L, hLl, hO⟩ := hR4.row i (by omega)
    have hOr := hO.rng
    have hrbi := hrb i (by omega)
    refine wp_skip ?_
    refine n_then ?_
    refine wp_seq ?_
    refine wp_block ?_
    refine wp_seq ?_
    refine rg ?_
    refine st (y_ix hq sl54 rfl (hrl.symm) rfl (by omega) (by omega)) ?_
    refine st (y_le hq na22 rfl (by omega) (by omega) rfl) ?_
    refine st (asS rfl) ?_
    refine rg_end ?_
    refine n_then ?_
    refine wp_seq ?_
    refine rg ?_
    refine st (mvS rfl) ?_
    refine st (y_len Try.underlying22 rfl) ?_
    refine st (mvI rfl) ?_
    refine rg_end ?_
    refine n_then ?_
    refine wp_block ?_
    refine lp (γ := Nat × List Int) [26, 79, 80, 81, 82, 83, 84, 85] (fun ⟨k, L2⟩ => [(79, .int .i64 (k : Int))]) (fun ⟨k, L2⟩ w_ => Out (blk (el rows (i : Int)).1) (hi1 (el rows (i : Int)).1) w94 w_ ∧ (k : Int) ≤ (el rows (i : Int)).2.2 ∧ L2.length = (el rows (i : Int)).2.2 ∧ Ow 3 Wk.encI 1 z5 bq w_ (el rows (i : Int)).1 (el rows (i : Int)).2.1 L2) (fun ⟨k, L2⟩ => (el rows (i : Int)).2.2 - k) (0, L) ⟨rfl, trivial⟩ ⟨Out.refl _ _ _, by omega, hLl, hO⟩ ?_
    rintro ⟨k, L2⟩ hav_ w97 ⟨ho98, hk_, hL2, hO⟩
    have hlp1 := ho98
    have hz99 := ho98.size
    replace hL0 := hL0.out ho98 (by first | omega | (simp only [blk_some, hi1_some] at *; omega))
    replace hL1 := hL1.out ho98 (by first | omega | (simp only [blk_some, hi1_some] at *; omega))
    replace hE := hE.step ho98 (by first | omega | (simp only [blk_some, hi1_some] at *; omega))
    replace hN := hN.out ho98 (by first | omega | (simp only [blk_some, hi1_some] at *; omega))
    replace hb11 := hb11.out ho98 (by first | omega | (simp only [blk_some, hi1_some] at *; omega))
    replace hTr1 := hTr1.out ho98 (by first | omega | (simp only [blk_some, hi1_some] at *; omega))
    replace hX := hX.out ho98 (by first | omega | (simp only [blk_some, hi1_some] at *; omega))
    replace hA_ := hA_.out ho98 (by first | omega | (simp only [blk_some, hi1_some] at *; omega))
    replace hA_t := hA_t.out ho98 (by first | omega | (simp only [blk_some, hi1_some] at *; omega))
    replace hB_ := hB_.out ho98 (by first | omega | (simp only [blk_some, hi1_some] at *; omega))
    replace hB_t := hB_t.out ho98 (by first | omega | (simp only [blk_some, hi1_some] at *; omega))
    replace hq := hq.out ho98 (by first | omega | (simp only [blk_some, hi1_some] at *; omega))
    replace hlp0 := hlp0.step ho98 (by first | omega | (simp only [blk_some, hi1_some] at *; omega))
    refine wp_seq ?_
    refine rg ?_
    refine st (y_lss rfl rfl) ?_
    refine rg_end ?_
    refine n_then ?_
    refine wp_seq ?_
    refine cnd rfl (fun hc1 => ?_) (fun hc1 => ?_)
    ·
      try simp only [decide_eq_true_eq, decide_eq_false_iff_not, Bool.not_eq_true', Bool.not_eq_false', Bool.and_eq_true, Bool.or_eq_true, Bool.or_eq_false_iff, Bool.cond_true_right, Bool.cond_false_right, Bool.cond_true_left, Bool.cond_false_left, ne_eq, Decidable.not_not, bne_iff_ne, beq_iff_eq, beq_eq_false_iff_ne, Bool.not_true, Bool.not_false] at hc1
      refine wp_skip ?_
      refine n_then ?_
      refine wp_seq ?_
      refine wp_block ?_
      refine wp_seq ?_
      refine rg ?_
      refine st (mvI rfl) ?_
      refine st (asI rfl) ?_
      refine rg_end ?_
      refine n_then ?_
      refine rg ?_
      refine st (mvS rfl) ?_
      refine st (mvI rfl) ?_
      refine st (y_ix hO.sl sl22 rfl (hL2.symm) rfl (by omega) (by omega)) ?_
      refine sd0 (d_se (j := 0) (e' := (-9 : Int)) hO sz3 rfl rfl rfl (by omega) (by omega) (Nat.le_of_ble_eq_true rfl) rfl ?_)
      intro w100 hs102 ho101 hO'
      have hrhO := hO.rng
      clear hO; have hO := hO'; clear hO'
      have hz103 := ho101.size
      replace hL0 := hL0.out ho101 (by first | omega | (simp only [blk_some, hi1_some] at *; omega))
      replace hL1 := hL1.out ho101 (by first | omega | (simp only [blk_some, hi1_some] at *; omega))
      replace hE := hE.step ho101 (by first | omega | (simp only [blk_some, hi1_some] at *; omega))
      replace hN := hN.out ho101 (by first | omega | (simp only [blk_some, hi1_some] at *; omega))
      replace hb11 := hb11.out ho101 (by first | omega | (simp only [blk_some, hi1_some] at *; omega))
      replace hTr1 := hTr1.out ho101 (by first | omega | (simp only [blk_some, hi1_some] at *; omega))
      replace hX := hX.out ho101 (by first | omega | (simp only [blk_some, hi1_some] at *; omega))
      replace hA_ := hA_.out ho101 (by first | omega | (simp only [blk_some, hi1_some] at *; omega))
      replace hA_t := hA_t.out ho101 (by first | omega | (simp only [blk_some, hi1_some] at *; omega))
      replace hB_ := hB_.out ho101 (by first | omega | (simp only [blk_some, hi1_some] at *; omega))
      replace hB_t := hB_t.out ho101 (by first | omega | (simp only [blk_some, hi1_some] at *; omega))
      replace hq := hq.out ho101 (by first | omega | (simp only [blk_some, hi1_some] at *; omega))
      replace hlp0 := hlp0.step ho101 (by first | omega | (simp only [blk_some, hi1_some] at *; omega))
      replace hlp1 := hlp1.step ho101 (by first | omega | (simp only [blk_some, hi1_some] at *; omega))
      refine rg_end ?_
      refine n_blk ?_
      refine n_then ?_
      refine rg ?_
      refine st (y_add rfl rfl (by omega)) ?_
      refine st (mvI rfl) ?_
      refine rg_end ?_
      exact n_then ⟨(k + 1, _), _, rfl, same_lk rfl (same_h0), ⟨rfl, trivial⟩, ⟨hlp1, by omega, by simp [hL2], hO⟩, by first | omega | (dsimp only; omega)⟩
    ·
      try simp only [decide_eq_true_eq, decide_eq_false_iff_not, Bool.not_eq_true', Bool.not_eq_false', Bool.and_eq_true, Bool.or_eq_true, Bool.or_eq_false_iff, Bool.cond_true_right, Bool.cond_false_right, Bool.cond_true_left, Bool.cond_false_left, ne_eq, Decidable.not_not, bne_iff_ne, beq_iff_eq, beq_eq_false_iff_ne, Bool.not_true, Bool.not_false] at hc1
      have hR5 := hR4.upd (by omega) hlp1 hO (by omega)
      refine wp_exit ?_
      refine e_then (e_then (e_blk (?_)))
      refine n_blk ?_
      refine n_then ?_
      refine rg ?_
      refine st (y_add rfl rfl (by omega)) ?_
      refine st (mvI rfl) ?_
      refine rg_end ?_
      exact n_then ⟨i + 1, _, rfl, same_lk rfl (same_hav rfl (same_lk rfl (same_h0))), ⟨rfl, trivial⟩, ⟨hlp0, by omega, hR5⟩, by first | omega | (dsimp only; omega)⟩
  ·
    try simp only [decide_eq_true_eq, decide_eq_false_iff_not, Bool.not_eq_true', Bool.not_eq_false', Bool.and_eq_true, Bool.or_eq_true, Bool.or_eq_false_iff, Bool.cond_true_right, Bool.cond_false_right, Bool.cond_true_left, Bool.cond_false_left, ne_eq, Decidable.not_not, bne_iff_ne, beq_iff_eq, beq_eq_false_iff_ne, Bool.not_true, Bool.not_false] at hc0
    refine wp_exit ?_
    refine e_then (e_then (e_blk (?_)))
    refine n_then ?_
    refine wp_seq ?_
    refine rg ?_
    refine sc cl14 (law16_awake_ok _) rfl ?_
    rintro v108 w104 ⟨rfl, ho105⟩
    have hz109 := ho105.size
    replace hL0 := hL0.ext ho105
    replace hL1 := hL1.ext ho105
    replace hE := hE.step ho105 (.inl (Nat.le_refl _))
    replace hN := hN.ext ho105
    replace hb11 := hb11.ext ho105
    replace hTr1 := hTr1.ext ho105
    replace hX := hX.ext ho105
    replace hA_ := hA_.ext ho105
    replace hA_t := hA_t.ext ho105
    replace hB_ := hB_.ext ho105
    replace hB_t := hB_t.ext ho105
    replace hq := hq.ext ho105
    refine st (mvB rfl) ?_
    refine stg rfl rfl rfl (mvI rfl) ?_
    refine stg rfl rfl rfl (y_eql rfl rfl) ?_
    refine st (y_pickT rfl rfl (v := .bool _) rfl) ?_
    refine st (mvB rfl) ?_
    refine stg rfl rfl (decide_eq_true rfl) (mvS rfl) ?_
    refine stg rfl rfl (decide_eq_true rfl) (mvS rfl) ?_
    refine scg rfl rfl (decide_eq_true rfl) cl29 (keep_Kept_ok tree1 _ _ _ _ _ _ _ (-7) _ (Ow.sl hA_) hTr1 (by omega)) rfl ?_
    rintro v114 w110 ⟨rfl, ho111⟩
    have hz115 := ho111.size
    replace hL0 := hL0.ext ho111
    replace hL1 := hL1.ext ho111
    replace hE := hE.step ho111 (.inl (Nat.le_refl _))
    replace hN := hN.ext ho111
    replace hb11 := hb11.ext ho111
    replace hTr1 := hTr1.ext ho111
    replace hX := hX.ext ho111
    replace hA_ := hA_.ext ho111
    replace hA_t := hA_t.ext ho111
    replace hB_ := hB_.ext ho111
    replace hB_t := hB_t.ext ho111
    replace hq := hq.ext ho111
    refine st (y_pickT rfl (decide_eq_true rfl) (v := .bool _) rfl) ?_
    refine st (mvB rfl) ?_
    refine stg rfl rfl rfl (mvS rfl) ?_
    refine stg rfl rfl rfl (mvS rfl) ?_
    refine scg rfl rfl rfl cl29 (keep_Kept_ok x _ _ _ _ _ _ _ (-7) _ (Ow.sl hB_) hX (by omega)) rfl ?_
    rintro v120 w116 ⟨rfl, ho117⟩
    have hz121 := ho117.size
    replace hL0 := hL0.ext ho117
    replace hL1 := hL1.ext ho117
    replace hE := hE.step ho117 (.inl (Nat.le_refl _))
    replace hN := hN.ext ho117
    replace hb11 := hb11.ext ho117
    replace hTr1 := hTr1.ext ho117
    replace hX := hX.ext ho117
    replace hA_ := hA_.ext ho117
    replace hA_t := hA_t.ext ho117
    replace hB_ := hB_.ext ho117
    replace hB_t := hB_t.ext ho117
    replace hq := hq.ext ho117
    refine st (y_pickT rfl rfl (v := .bool _) rfl) ?_
    refine st (asB rfl) ?_
    refine rg_end ?_
    refine n_then ?_
    refine wp_ret ?_
    refine ret1 (v := (.bool _)) Try.results8 rfl ?_
    exact ⟨rfl, hE⟩
end Go.Proofs.Ytgekfafangcggaa
