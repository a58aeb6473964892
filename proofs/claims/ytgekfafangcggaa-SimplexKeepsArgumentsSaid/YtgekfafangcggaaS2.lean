/-
  Walks of the functions, printed by a program out of the code and the loops' relations.
-/
import Derived.Test.YtgekfafangcggaaWkI
import Derived.Test.YtgekfafangcggaaProg
import Derived.KernelRfl
import Derived.Test.YtgekfafangcggaaS1
namespace Go.Proofs.Ytgekfafangcggaa
open Go.Wk Go.RowKit
set_option linter.unusedVariables false
set_option linter.unusedSimpArgs false
theorem bld26_0_1_2 (a0 : Int) (d1 : Option Addr) (l1 : Nat) (c1 : Nat) (d2 : Option Addr) (l2 : Nat) (c2 : Nat) (w : World) : (Instr.build 26 [(0, (.int .i64 a0)), (1, (.slice d1 l1 c1)), (2, (.slice d2 l2 c2))].toArray).run Try.prog w = .ok (.agg [(.int .i64 a0), (.slice d1 l1 c1), (.slice d2 l2 c2)].toArray) w := by kernel_rfl
theorem bld36_1_2_3_4_5 (a1 : Int) (a2 : Int) (a3 : Int) (a4 : Int) (a5 : Int) (w : World) : (Instr.build 36 [(1, (.int .i64 a1)), (2, (.int .i64 a2)), (3, (.int .i64 a3)), (4, (.int .i64 a4)), (5, (.int .i64 a5))].toArray).run Try.prog w = .ok (.agg [.int .i64 0, (.int .i64 a1), (.int .i64 a2), (.int .i64 a3), (.int .i64 a4), (.int .i64 a5)].toArray) w := by kernel_rfl
theorem bsl24_2 (a0_0 : Int) (a0_1 : Int) (a0_2 : Int) (a0_3 : Int) (a0_4 : Int) (a0_5 : Int) (a1_0 : Int) (a1_1 : Int) (a1_2 : Int) (a1_3 : Int) (a1_4 : Int) (a1_5 : Int) (w : World) : (Instr.buildSlice 24 2 [(0, (.agg #[(.int .i64 a0_0), (.int .i64 a0_1), (.int .i64 a0_2), (.int .i64 a0_3), (.int .i64 a0_4), (.int .i64 a0_5)])), (1, (.agg #[(.int .i64 a1_0), (.int .i64 a1_1), (.int .i64 a1_2), (.int .i64 a1_3), (.int .i64 a1_4), (.int .i64 a1_5)]))].toArray).run Try.prog w = .ok (.slice (some ⟨w.heap.size, 0, none⟩) 2 2) (w.alloc (.cells [(.int .i64 a0_0), (.int .i64 a0_1), (.int .i64 a0_2), (.int .i64 a0_3), (.int .i64 a0_4), (.int .i64 a0_5), (.int .i64 a1_0), (.int .i64 a1_1), (.int .i64 a1_2), (.int .i64 a1_3), (.int .i64 a1_4), (.int .i64 a1_5)].toArray 36)) := by kernel_rfl
theorem bsl31_2 (p0 : Bool) (p1 : Bool) (w : World) : (Instr.buildSlice 31 2 [(0, (.bool p0)), (1, (.bool p1))].toArray).run Try.prog w = .ok (.slice (some ⟨w.heap.size, 0, none⟩) 2 2) (w.alloc (.cells [(.bool p0), (.bool p1)].toArray 4)) := by kernel_rfl
theorem cl13 : Callable Try.prog 13 := ⟨Try.call13⟩
theorem cl14 : Callable Try.prog 14 := ⟨Try.call14⟩
theorem cl16 : Callable Try.prog 16 := ⟨Try.call16⟩
theorem cl18 : Callable Try.prog 18 := ⟨Try.call18⟩
theorem cl37 : Callable Try.prog 37 := ⟨Try.call37⟩
set_option maxRecDepth 100000 in
theorem info63 : ∃ i, Try.prog.info? 63 = some i ∧ i.zero = some (.agg #[.int .i64 0, .int .i64 0, .int .i64 0]) ∧ i.size = 3 ∧ i.bytes = 24 := ⟨Try.t63, Try.type63, rfl, rfl, rfl⟩

def smN : Net := ⟨10, List.replicate 2 ⟨0, 0, 0⟩, [⟨0, 0, 1, 2, 8, 1⟩, ⟨0, 1, 0, 1, 9, 3⟩]⟩
theorem sm_fo : FoOk smN [0] := by
  refine ⟨netOk_iff.1 (by kernel_rfl), ⟨fun q hq => ?_, fun q hq => ?_, fun q hq => ?_⟩, fun i hi => ?_⟩
  · match q, hq with
    | 0, _ => decide
  · simp at hq
  · match q, hq with
    | 0, _ => decide
  · match i, hi with
    | 0, _ => decide
    | 1, _ => decide
theorem sm_cut : sdL smN [0] 0 = [false, true] := by decide
theorem extB {a b : List Bool} (hl : a.length = b.length) (h : ∀ q : Nat, q < a.length → el a (q : Int) = el b (q : Int)) : a = b := extEl hl (fun i h0 h1 => by
  have := h i.toNat (by omega)
  rwa [Int.toNat_of_nonneg h0] at this)

set_option maxRecDepth 100000 in
theorem keep_Same_bool_ok (a b : List Bool) (aa ab : Option Addr) (ca cb la ha_ lb hb_ : Nat) (w : World) (hA : Sl encB 1 la ha_ w aa a) (hB : Sl encB 1 lb hb_ w ab b) (hn : (a.length : Int) ≤ 9223372036854775807) : Cal Try.prog 37 [.slice aa a.length ca, .slice ab b.length cb] w (fun v w' => v = .bool (decide (a = b)) ∧ Ext w w') := by
  have hE : Out 0 0 w w := Out.refl _ _ w
  refine enter Try.func37 rfl Try.ntmps37 rfl ?_
  refine wp_seq ?_
  refine rg ?_
  refine st (asB rfl) ?_
  refine rg_end ?_
  refine n_then ?_
  refine wp_seq ?_
  refine wp_seq ?_
  refine rg ?_
  refine st (mvS rfl) ?_
  refine st (y_len Try.underlying31 rfl) ?_
  refine st (mvS rfl) ?_
  refine st (y_len Try.underlying31 rfl) ?_
  refine st (y_neq rfl rfl) ?_
  refine rg_end ?_
  refine n_then ?_
  refine cnd rfl (fun hc0 => ?_) (fun hc0 => ?_)
  ·
    try simp only [decide_eq_true_eq, decide_eq_false_iff_not, Bool.not_eq_true', Bool.not_eq_false', Bool.and_eq_true, Bool.or_eq_true, Bool.or_eq_false_iff, Bool.cond_true_right, Bool.cond_false_right, Bool.cond_true_left, Bool.cond_false_left, ne_eq, Decidable.not_not, bne_iff_ne, beq_iff_eq, beq_eq_false_iff_ne, Bool.not_true, Bool.not_false] at hc0
    refine wp_seq ?_
    refine rg ?_
    refine st (asB rfl) ?_
    refine rg_end ?_
    refine n_then ?_
    refine wp_ret ?_
    refine r_then (ret1 (v := (.bool _)) Try.results37 rfl ?_)
    exact ⟨vb (by simp; intro h; subst h; omega), hE⟩
  ·
    try simp only [decide_eq_true_eq, decide_eq_false_iff_not, Bool.not_eq_true', Bool.not_eq_false', Bool.and_eq_true, Bool.or_eq_true, Bool.or_eq_false_iff, Bool.cond_true_right, Bool.cond_false_right, Bool.cond_true_left, Bool.cond_false_left, ne_eq, Decidable.not_not, bne_iff_ne, beq_iff_eq, beq_eq_false_iff_ne, Bool.not_true, Bool.not_false] at hc0
    have hln : a.length = b.length := by omega
    refine wp_skip ?_
    refine n_then ?_
    refine wp_seq ?_
    refine wp_seq ?_
    refine rg ?_
    refine st (mvS rfl) ?_
    refine st (y_len Try.underlying31 rfl) ?_
    refine st (mvI rfl) ?_
    refine rg_end ?_
    refine n_then ?_
    refine wp_block ?_
    refine lp (γ := Nat) [4, 5, 13, 14, 15, 16, 17, 18, 19, 20, 21, 22, 23, 24, 25] (fun k => [(13, .int .i64 (k : Int))]) (fun k w_ => Ext w w_ ∧ (k : Int) ≤ a.length ∧ ∀ q : Nat, q < k → el a (q : Int) = el b (q : Int)) (fun k => a.length - k) 0 ⟨rfl, trivial⟩ ⟨Out.refl _ _ _, by omega, fun q hq => by omega⟩ ?_
    rintro k hav_ w1 ⟨ho2, hk, hall⟩
    have hlp0 := ho2
    have hz3 := ho2.size
    replace hA := hA.ext ho2
    replace hB := hB.ext ho2
    replace hE := hE.step ho2 (.inl (Nat.le_refl _))
    refine wp_seq ?_
    refine rg ?_
    refine st (y_lss rfl rfl) ?_
    refine rg_end ?_
    refine n_then ?_
    refine wp_seq ?_
    refine cnd rfl (fun hc1 => ?_) (fun hc1 => ?_)
    ·
      try simp only [decide_eq_true_eq, decide_eq_false_iff_not, Bool.not_eq_true', Bool.not_eq_false', Bool.and_eq_true, Bool.or_eq_true, Bool.or_eq_false_iff, Bool.cond_true_right, Bool.cond_false_right, Bool.cond_true_left, Bool.cond_false_left, ne_eq, Decidable.not_not, bne_iff_ne, beq_iff_eq, beq_eq_false_iff_ne, Bool.not_true, Bool.not_false] at hc1
      refine wp_skip ?_
      refine n_then ?_
      refine wp_seq ?_
      refine wp_block ?_
      refine wp_seq ?_
      refine rg ?_
      refine st (mvI rfl) ?_
      refine st (asI rfl) ?_
      refine rg_end ?_
      refine n_then ?_
      refine wp_seq ?_
      refine rgD 8 (fun w_ => Ext w1 w_) (fun i => false) mixed (by kernel_rfl) ?_
      intro w4 ho5 hs6
      refine ⟨ho5, ?_⟩
      have hx7 := ho5
      refine tn rfl (fun _ hG => mvS rfl) ?_
      refine tn rfl (fun _ hG => mvI rfl) ?_
      refine tn rfl (fun _ hG => y_ix (hA.ext hG) sl31 rfl (rfl) rfl (by omega) (by omega)) ?_
      refine tn rfl (fun _ hG => y_le (hA.ext hG) na4 rfl (by omega) (by omega) rfl) ?_
      refine tn rfl (fun _ hG => mvS rfl) ?_
      refine tn rfl (fun _ hG => mvI rfl) ?_
      refine tn rfl (fun _ hG => y_ix (hB.ext hG) sl31 rfl (rfl) rfl (by omega) (by omega)) ?_
      refine tn rfl (fun _ hG => y_le (hB.ext hG) na4 rfl (by omega) (by omega) rfl) ?_
      refine t_end ?_
      have hz8 := hx7.size
      replace hA := hA.ext hx7
      replace hB := hB.ext hx7
      replace hE := hE.step hx7 (.inl (Nat.le_refl _))
      replace hlp0 := hlp0.step hx7 (.inl (Nat.le_refl _))
      refine st (y_neqB rfl rfl Try.underlying4) ?_
      refine rg_end ?_
      refine n_then ?_
      refine cnd rfl (fun hc2 => ?_) (fun hc2 => ?_)
      ·
        try simp only [decide_eq_true_eq, decide_eq_false_iff_not, Bool.not_eq_true', Bool.not_eq_false', Bool.and_eq_true, Bool.or_eq_true, Bool.or_eq_false_iff, Bool.cond_true_right, Bool.cond_false_right, Bool.cond_true_left, Bool.cond_false_left, ne_eq, Decidable.not_not, bne_iff_ne, beq_iff_eq, beq_eq_false_iff_ne, Bool.not_true, Bool.not_false] at hc2
        have hkn : el a (k : Int) ≠ el b (k : Int) := by
          first
          | exact hc2
          | (simp at hc2; exact hc2)
        refine wp_seq ?_
        refine rg ?_
        refine st (asB rfl) ?_
        refine rg_end ?_
        refine n_then ?_
        refine wp_ret ?_
        refine r_blk (r_then (r_then (r_blk (r_then (ret1 (v := (.bool _)) Try.results37 rfl ?_)))))
        exact ⟨vb (by simp; intro h; subst h; exact absurd rfl hkn), hE⟩
      ·
        try simp only [decide_eq_true_eq, decide_eq_false_iff_not, Bool.not_eq_true', Bool.not_eq_false', Bool.and_eq_true, Bool.or_eq_true, Bool.or_eq_false_iff, Bool.cond_true_right, Bool.cond_false_right, Bool.cond_true_left, Bool.cond_false_left, ne_eq, Decidable.not_not, bne_iff_ne, beq_iff_eq, beq_eq_false_iff_ne, Bool.not_true, Bool.not_false] at hc2
        have hkk : el a (k : Int) = el b (k : Int) := by
          first
          | exact hc2
          | (simp at hc2; exact hc2)
        refine wp_skip ?_
        refine n_blk ?_
        refine n_then ?_
        refine rg ?_
        refine st (y_add rfl rfl (by omega)) ?_
        refine st (mvI rfl) ?_
        refine rg_end ?_
        exact n_then ⟨k + 1, _, rfl, same_lk rfl (same_h0), ⟨rfl, trivial⟩, ⟨hlp0, by omega, fun q hq => by (by_cases e : q = k; subst e; exact hkk; exact hall q (by omega))⟩, by first | omega | (dsimp only; omega)⟩
    ·
      try simp only [decide_eq_true_eq, decide_eq_false_iff_not, Bool.not_eq_true', Bool.not_eq_false', Bool.and_eq_true, Bool.or_eq_true, Bool.or_eq_false_iff, Bool.cond_true_right, Bool.cond_false_right, Bool.cond_true_left, Bool.cond_false_left, ne_eq, Decidable.not_not, bne_iff_ne, beq_iff_eq, beq_eq_false_iff_ne, Bool.not_true, Bool.not_false] at hc1
      refine wp_exit ?_
      refine e_then (e_then (e_blk (?_)))
      refine n_then ?_
      refine wp_seq ?_
      refine rg ?_
      refine st (asB rfl) ?_
      refine rg_end ?_
      refine n_then ?_
      refine wp_ret ?_
      refine ret1 (v := (.bool _)) Try.results37 rfl ?_
      exact ⟨vb (by simp; exact extB hln (fun q hq => hall q (by omega))), hE⟩

set_option maxRecDepth 100000 in
theorem law16_small_ok (w : World) : Cal Try.prog 18 [] w (fun v w' => ∃ A, v = netV smN A ∧ NetIn w.heap.size w'.heap.size w' smN A ∧ Ow 36 encAc 6 w.heap.size w'.heap.size w' A.aa A.ca smN.acts ∧ hi1 A.ae ≤ blk A.aa ∧ Ext w w') := by
  have hE : Out 0 0 w w := Out.refl _ _ w
  refine enter Try.func18 rfl Try.ntmps18 rfl ?_
  refine wp_seq ?_
  refine rg ?_
  refine sd (d_allocA zer26 ?_)
  intro b0 w1 hbb0 hs3 ho2 hb0
  have hz4 := ho2.size
  replace hE := hE.step ho2 (.inl (Nat.le_refl _))
  refine rg_end ?_
  refine n_then ?_
  refine wp_seq ?_
  refine rg ?_
  refine sd (d_make (m := 2) (lo := w.heap.size) (enc := encEv) (e0 := (⟨0, 0, 0⟩ : Ev)) sl23 info63 (fun _ => rfl) rfl rfl rfl (by omega) (by unfold maxLen; omega) (by omega) ?_)
  intro be w5 hbbe hs7 ho6 hev
  have hz9 := ho6.size
  replace hE := hE.step ho6 (.inl (Nat.le_refl _))
  replace hb0 := hb0.ext ho6
  refine st (y_build (bld36_1_2_3_4_5 _ _ _ _ _ _) rfl) ?_
  refine st (y_build (bld36_1_2_3_4_5 _ _ _ _ _ _) rfl) ?_
  refine sd (d_bsO (lo := w.heap.size) (enc := encAc) (l := smN.acts) (sz := 6) (fun _ => rfl) (bsl24_2 _ _ _ _ _ _ _ _ _ _ _ _ _) rfl rfl (by unfold maxLen; omega) (by omega) ?_)
  intro ba w10 hbba hs12 ho11 hac
  have hz13 := ho11.size
  replace hE := hE.step ho11 (.inl (Nat.le_refl _))
  replace hb0 := hb0.ext ho11
  replace hev := hev.ext ho11
  refine st (y_build (bld26_0_1_2 _ _ _ _ _ _ _ _) rfl) ?_
  refine sd0 (d_stN hb0 rfl rfl sz26 rfl rfl ?_)
  intro w14 hs16 ho15 hb0'
  clear hb0; have hb0 := hb0'; clear hb0'
  have hz17 := ho15.size
  replace hE := hE.step ho15 (by first | omega | (simp only [blk_some, hi1_some] at *; omega))
  have hrnhev := hev.rng
  replace hev := hev.out ho15 (by first | omega | (simp only [blk_some, hi1_some] at *; omega))
  have hrnhac := hac.rng
  replace hac := hac.out ho15 (by first | omega | (simp only [blk_some, hi1_some] at *; omega))
  refine rg_end ?_
  refine n_then ?_
  refine wp_ret ?_
  refine retC Try.results18 hb0 agg26 rfl ?_
  exact ⟨⟨some ⟨be, 0, none⟩, 2, some ⟨ba, 0, none⟩, 2⟩, rfl, ⟨Sl.wide hev.sl (by omega) (by omega), Sl.wide hac.sl (by omega) (by omega)⟩, hac.wide (by omega), by simp only [blk_some, hi1_some]; omega, hE⟩

set_option maxRecDepth 100000 in
theorem law16_awake_ok (w : World) : Cal Try.prog 14 [] w (fun v w' => v = .bool true ∧ Ext w w') := by
  have hE : Out 0 0 w w := Out.refl _ _ w
  refine enter Try.func14 rfl Try.ntmps14 rfl ?_
  refine wp_seq ?_
  refine rg ?_
  refine st (asB rfl) ?_
  refine rg_end ?_
  refine n_then ?_
  refine wp_seq ?_
  refine rg ?_
  refine sc cl18 (law16_small_ok _) rfl ?_
  rintro v5 w1 ⟨A0, rfl, hN0, _, _, ho2⟩
  have hz6 := ho2.size
  replace hE := hE.step ho2 (.inl (Nat.le_refl _))
  refine sd (d_bs (bsl22_1 _ _) rfl ?_)
  intro s0 w7 hbs0 hs9 ho8 hs0
  have hs0 : Sl encI 1 s0 (s0 + 1) w7 (some ⟨s0, 0, none⟩) [(0 : Int)] := Blk.sl (l := [(0 : Int)]) hs0 (fun _ => rfl) (Nat.le_refl _) (Nat.lt_succ_self _)
  have hz10 := ho8.size
  replace hE := hE.step ho8 (.inl (Nat.le_refl _))
  replace hN0 := hN0.ext ho8
  refine sc cl16 (simplex_Cut_ok smN A0 _ _ [0] _ _ _ _ 0 _ hN0 hs0 (by first | omega | decide)) rfl ?_
  rintro v15 w11 ⟨am, cm, m, e, rfl, hm, h1, h2, h3, ho12⟩
  obtain ⟨rfl, rfl⟩ := h3 sm_fo (by simp)
  have hz16 := ho12.size
  replace hE := hE.step ho12 (.inl (Nat.le_refl _))
  replace hN0 := hN0.ext ho12
  replace hs0 := hs0.ext ho12
  refine st (mvT rfl) ?_
  refine st (y_ext rfl rfl) ?_
  refine st (y_ext rfl rfl) ?_
  refine st (asS rfl) ?_
  refine st (asI rfl) ?_
  refine rg_end ?_
  refine n_then ?_
  refine wp_seq ?_
  refine rg ?_
  refine st (mvI rfl) ?_
  refine st (y_eql rfl rfl) ?_
  refine st (mvB rfl) ?_
  refine stg rfl rfl (decide_eq_true rfl) (mvS rfl) ?_
  refine sdg rfl rfl (decide_eq_true rfl) (d_bs (bsl31_2 _ _ _) rfl ?_)
  intro s1 w17 hbs1 hs19 ho18 hs1
  have hs1 : Sl encB 1 s1 (s1 + 1) w17 (some ⟨s1, 0, none⟩) [false, true] := Blk.sl (l := [false, true]) hs1 (fun _ => rfl) (Nat.le_refl _) (Nat.lt_succ_self _)
  have hz20 := ho18.size
  replace hE := hE.step ho18 (.inl (Nat.le_refl _))
  replace hN0 := hN0.ext ho18
  replace hs0 := hs0.ext ho18
  replace hm := hm.ext ho18
  refine scg rfl rfl (decide_eq_true rfl) cl37 (keep_Same_bool_ok (sdL smN [0] 0) [false, true] _ _ _ _ _ _ _ _ _ hm hs1 (by rw [sm_cut]; decide)) rfl ?_
  rintro v25 w21 ⟨rfl, ho22⟩
  have hz26 := ho22.size
  replace hE := hE.step ho22 (.inl (Nat.le_refl _))
  replace hN0 := hN0.ext ho22
  replace hs0 := hs0.ext ho22
  replace hm := hm.ext ho22
  replace hs1 := hs1.ext ho22
  refine st (y_pickT rfl (decide_eq_true rfl) (v := .bool _) rfl) ?_
  refine st (asB rfl) ?_
  refine rg_end ?_
  refine n_then ?_
  refine wp_ret ?_
  refine ret1 (v := (.bool _)) Try.results14 rfl ?_
  exact ⟨congrArg Value.bool (decide_eq_true sm_cut), hE⟩

set_option maxHeartbeats 1000000 in
set_option maxRecDepth 100000 in
theorem law16_SimplexCutSplits_ok (a0 : Option Addr) (c0 : Nat) (l0 : List Int) (x1 : Int) (w : World) (hL0 : Ints 0 w.heap.size w a0 l0) (hl0 : (l0.length : Int) ≤ 9223372036854775807) : Cal Try.prog 3 [.slice a0 l0.length c0, .int .i64 x1] w (fun v w' => v = .bool true ∧ Ext w w') := by
  have hE : Out 0 0 w w := Out.refl _ _ w
  refine enter Try.func3 rfl Try.ntmps3 rfl ?_
  refine wp_seq ?_
  refine rg ?_
  refine st (asB rfl) ?_
  refine rg_end ?_
  refine n_then ?_
  refine wp_seq ?_
  refine rg ?_
  refine st (mvS rfl) ?_
  refine sc cl12 (keep_Network_ok _ _ _ _ _ _ hL0 hl0) rfl ?_
  rintro v5 w1 ⟨N, A, rfl, hsm, hev, hac, hdis, ho2⟩
  have hN : NetIn _ _ _ N A := ⟨Ow.sl hev, Ow.sl hac⟩
  clear hev hac
  have hok := hsm.1
  have hacn := hok.ac
  have hevn := hok.ev
  have hz6 := ho2.size
  replace hL0 := hL0.ext ho2
  replace hE := hE.step ho2 (.inl (Nat.le_refl _))
  refine sd (d_allocA zer26 ?_)
  intro b5 w7 hbb5 hs9 ho8 hb5
  have hz10 := ho8.size
  replace hL0 := hL0.ext ho8
  replace hE := hE.step ho8 (.inl (Nat.le_refl _))
  replace hN := hN.ext ho8
  refine sd0 (d_stN hb5 rfl rfl sz26 rfl rfl ?_)
  intro w11 hs13 ho12 hb5'
  clear hb5; have hb5 := hb5'; clear hb5'
  have hz14 := ho12.size
  replace hL0 := hL0.out ho12 (by first | omega | (simp only [blk_some, hi1_some] at *; omega))
  replace hE := hE.step ho12 (by first | omega | (simp only [blk_some, hi1_some] at *; omega))
  replace hN := hN.out ho12 (by first | omega | (simp only [blk_some, hi1_some] at *; omega))
  refine rg_end ?_
  refine n_then ?_
  refine wp_seq ?_
  refine rg ?_
  refine st (y_lbN hb5 agg26 rfl) ?_
  refine sc cl13 (ref11_TreeF_ok N A _ _ _ hN hok) rfl ?_
  rintro v19 w15 ⟨ar, cr, tree, rfl, hTr, hfo, htl, hcap, ho16⟩
  have hz20 := ho16.size
  replace hL0 := hL0.ext ho16
  replace hE := hE.step ho16 (.inl (Nat.le_refl _))
  replace hN := hN.ext ho16
  replace hb5 := hb5.ext ho16
  refine st (asS rfl) ?_
  refine rg_end ?_
  refine n_then ?_
  refine wp_seq ?_
  refine wp_seq ?_
  refine rg ?_
  refine st (mvS rfl) ?_
  refine st (y_len Try.underlying22 rfl) ?_
  refine st (y_eql rfl rfl) ?_
  refine rg_end ?_
  refine n_then ?_
  refine cnd rfl (fun hc0 => ?_) (fun hc0 => ?_)
  ·
    try simp only [decide_eq_true_eq, decide_eq_false_iff_not, Bool.not_eq_true', Bool.not_eq_false', Bool.and_eq_true, Bool.or_eq_true, Bool.or_eq_false_iff, Bool.cond_true_right, Bool.cond_false_right, Bool.cond_true_left, Bool.cond_false_left, ne_eq, Decidable.not_not, bne_iff_ne, beq_iff_eq, beq_eq_false_iff_ne, Bool.not_true, Bool.not_false] at hc0
    refine wp_seq ?_
    refine rg ?_
    refine sc cl14 (law16_awake_ok _) rfl ?_
    rintro v25 w21 ⟨rfl, ho22⟩
    have hz26 := ho22.size
    replace hL0 := hL0.ext ho22
    replace hE := hE.step ho22 (.inl (Nat.le_refl _))
    replace hN := hN.ext ho22
    replace hb5 := hb5.ext ho22
    replace hTr := hTr.ext ho22
    refine st (asB rfl) ?_
    refine rg_end ?_
    refine n_then ?_
    refine wp_ret ?_
    refine r_then (ret1 (v := (.bool _)) Try.results3 rfl ?_)
    exact ⟨rfl, hE⟩
  ·
    try simp only [decide_eq_true_eq, decide_eq_false_iff_not, Bool.not_eq_true', Bool.not_eq_false', Bool.and_eq_true, Bool.or_eq_true, Bool.or_eq_false_iff, Bool.cond_true_right, Bool.cond_false_right, Bool.cond_true_left, Bool.cond_false_left, ne_eq, Decidable.not_not, bne_iff_ne, beq_iff_eq, beq_eq_false_iff_ne, Bool.not_true, Bool.not_false] at hc0
    refine wp_skip ?_
    refine n_then ?_
    refine wp_seq ?_
    refine rg ?_
    refine st (mvS rfl) ?_
    refine st (mvI rfl) ?_
    refine st (mvS rfl) ?_
    refine st (y_len Try.underlying22 rfl) ?_
    refine sc cl15 (keep_Pick_ok _ _ _ (by omega) (by omega)) rfl ?_
    rintro v31 w27 ⟨rfl, ho28⟩
    have hpk := pick_rng x1 ((tree.length : Nat) : Int) (by omega)
    obtain ⟨j, hj⟩ : ∃ j : Nat, pick x1 ((tree.length : Nat) : Int) = (j : Int) := Int.eq_ofNat_of_zero_le hpk.1
    rw [hj] at hpk ⊢
    have har := el_mem (l := tree) (i := (j : Int)) (by omega) (by omega)
    have hor := hfo.mem _ har
    have hoa := hok.acs _ (el_mem hor.1 hor.2)
    have g0 := hoa.f0
    have g1 := hoa.f1
    have g2 := hoa.t0
    have g3 := hoa.t1
    have hz32 := ho28.size
    replace hL0 := hL0.ext ho28
    replace hE := hE.step ho28 (.inl (Nat.le_refl _))
    replace hN := hN.ext ho28
    replace hb5 := hb5.ext ho28
    replace hTr := hTr.ext ho28
    refine st (y_ix hTr sl22 rfl (rfl) rfl (by omega) (by omega)) ?_
    refine st (y_le hTr na3 rfl (by omega) (by omega) rfl) ?_
    refine st (asI rfl) ?_
    refine rg_end ?_
    refine n_then ?_
    refine wp_seq ?_
    refine rg ?_
    refine st (y_lbN hb5 agg26 rfl) ?_
    refine st (mvS rfl) ?_
    refine st (mvI rfl) ?_
    refine sc cl16 (simplex_Cut_ok N A _ _ tree _ _ _ _ (el tree (j : Int)) _ hN hTr (by first | omega | decide)) rfl ?_
    rintro v37 w33 ⟨am, cm, m, e, rfl, hm, h1, h2, h3, ho34⟩
    obtain ⟨rfl, rfl⟩ := h3 hfo har
    have hz38 := ho34.size
    replace hL0 := hL0.ext ho34
    replace hE := hE.step ho34 (.inl (Nat.le_refl _))
    replace hN := hN.ext ho34
    replace hb5 := hb5.ext ho34
    replace hTr := hTr.ext ho34
    refine st (mvT rfl) ?_
    refine st (y_ext rfl rfl) ?_
    refine st (y_ext rfl rfl) ?_
    refine st (asS rfl) ?_
    refine st (asI rfl) ?_
    refine rg_end ?_
    refine n_then ?_
    refine wp_seq ?_
    refine wp_seq ?_
    refine rg ?_
    refine st (mvI rfl) ?_
    refine st (y_neq rfl rfl) ?_
    refine st (mvB rfl) ?_
    refine stg rfl rfl (decide_eq_false (not_not_intro rfl)) (mvS rfl) ?_
    refine stg rfl rfl (decide_eq_false (not_not_intro rfl)) (y_len Try.underlying31 rfl) ?_
    refine stg rfl rfl (decide_eq_false (not_not_intro rfl)) (y_fld fld26_1 rfl) ?_
    refine stg rfl rfl (decide_eq_false (not_not_intro rfl)) (y_lb hb5 na23 rfl rfl) ?_
    refine stg rfl rfl (decide_eq_false (not_not_intro rfl)) (y_len Try.underlying23 rfl) ?_
    refine stg rfl rfl (decide_eq_false (not_not_intro rfl)) (y_neq rfl rfl) ?_
    refine st (y_pickF rfl (decide_eq_false (not_not_intro rfl)) (v := .bool _) rfl) ?_
    refine rg_end ?_
    refine n_then ?_
    refine cnd rfl (fun hc1 => absurd ((decide_eq_false (not_not_intro (by rw [sdL_len]))).symm.trans hc1) (by decide)) (fun hc1 => ?_)
    refine wp_skip ?_
    refine n_then ?_
    refine wp_seq ?_
    refine wp_seq ?_
    refine rg ?_
    refine st (mvS rfl) ?_
    refine st (y_len Try.underlying22 rfl) ?_
    refine st (mvI rfl) ?_
    refine rg_end ?_
    refine n_then ?_
    refine wp_block ?_
    refine lp (γ := Nat) [4, 10, 11, 46, 47, 48, 49, 50, 51, 52, 53, 54, 55, 56, 57, 58, 59, 60, 61, 62, 63, 64, 65, 66, 67, 68, 69, 70, 71, 72, 73, 74, 75] (fun k => [(46, .int .i64 (k : Int))]) (fun k w_ => Ext w33 w_ ∧ (k : Int) ≤ tree.length) (fun k => tree.length - k) 0 ⟨rfl, trivial⟩ ⟨Out.refl _ _ _, by omega⟩ ?_
    rintro k hav_ w39 ⟨ho40, hk_⟩
    have hlp0 := ho40
    have hz41 := ho40.size
    replace hL0 := hL0.ext ho40
    replace hE := hE.step ho40 (.inl (Nat.le_refl _))
    replace hN := hN.ext ho40
    replace hb5 := hb5.ext ho40
    replace hTr := hTr.ext ho40
    replace hm := hm.ext ho40
    refine wp_seq ?_
    refine rg ?_
    refine st (y_lss rfl rfl) ?_
    refine rg_end ?_
    refine n_then ?_
    refine wp_seq ?_
    refine cnd rfl (fun hc2 => ?_) (fun hc2 => ?_)
    ·
      try simp only [decide_eq_true_eq, decide_eq_false_iff_not, Bool.not_eq_true', Bool.not_eq_false', Bool.and_eq_true, Bool.or_eq_true, Bool.or_eq_false_iff, Bool.cond_true_right, Bool.cond_false_right, Bool.cond_true_left, Bool.cond_false_left, ne_eq, Decidable.not_not, bne_iff_ne, beq_iff_eq, beq_eq_false_iff_ne, Bool.not_true, Bool.not_false] at hc2
      have hmk := el_mem (l := tree) (i := (k : Int)) (by omega) (by omega)
      have htq := hfo.mem _ hmk
      have ha := hok.acs _ (el_mem htq.1 htq.2)
      have f0 := ha.f0
      have f1 := ha.f1
      have t0 := ha.t0
      have t1 := ha.t1
      have hs1 := sdL_el (N := N) (tree := tree) (arc := (el tree (j : Int))) f0 f1
      have hs2 := sdL_el (N := N) (tree := tree) (arc := (el tree (j : Int))) t0 t1
      refine wp_skip ?_
      refine n_then ?_
      refine wp_seq ?_
      refine wp_block ?_
      refine wp_seq ?_
      refine rg ?_
      refine st (mvI rfl) ?_
      refine st (asI rfl) ?_
      refine rg_end ?_
      refine n_then ?_
      refine wp_seq ?_
      refine rgD 9 (fun w_ => Ext w39 w_) (fun i => Nat.beq i 8) mixed (by kernel_rfl) ?_
      intro w42 ho43 hs44
      refine ⟨ho43, ?_⟩
      have hx45 := ho43
      refine tn rfl (fun _ hG => y_fld fld26_2 rfl) ?_
      refine tn rfl (fun _ hG => y_lb (hb5.ext hG) na24 rfl rfl) ?_
      refine tn rfl (fun _ hG => mvS rfl) ?_
      refine tn rfl (fun _ hG => mvI rfl) ?_
      refine tn rfl (fun _ hG => y_ix (hTr.ext hG) sl22 rfl (rfl) rfl (by omega) (by omega)) ?_
      refine tn rfl (fun _ hG => y_le (hTr.ext hG) na3 rfl (by omega) (by omega) rfl) ?_
      refine tn rfl (fun _ hG => y_ix (hN.a.ext hG) sl24 rfl (rfl) rfl (by omega) (by omega)) ?_
      refine tn rfl (fun _ hG => y_lw (hN.a.ext hG) agg36 rfl (by omega) (by omega)) ?_
      refine td rfl (d_allocA zer36 ?_)
      intro b11 w46 hbb11 hs48 ho47 hb11
      have hx49 := hx45.step ho47 (.inl (Nat.le_refl _))
      have hz50 := ho47.size
      refine ⟨hx49, ?_⟩
      refine t_end ?_
      have hz51 := hx49.size
      replace hL0 := hL0.ext hx49
      replace hE := hE.step hx49 (.inl (Nat.le_refl _))
      replace hN := hN.ext hx49
      replace hb5 := hb5.ext hx49
      replace hTr := hTr.ext hx49
      replace hm := hm.ext hx49
      replace hlp0 := hlp0.step hx49 (.inl (Nat.le_refl _))
      refine sd0 (d_stN hb11 rfl rfl sz36 rfl rfl ?_)
      intro w52 hs54 ho53 hb11'
      clear hb11; have hb11 := hb11'; clear hb11'
      have hz55 := ho53.size
      replace hL0 := hL0.out ho53 (by first | omega | (simp only [blk_some, hi1_some] at *; omega))
      replace hE := hE.step ho53 (by first | omega | (simp only [blk_some, hi1_some] at *; omega))
      replace hN := hN.out ho53 (by first | omega | (simp only [blk_some, hi1_some] at *; omega))
      replace hb5 := hb5.out ho53 (by first | omega | (simp only [blk_some, hi1_some] at *; omega))
      replace hTr := hTr.out ho53 (by first | omega | (simp only [blk_some, hi1_some] at *; omega))
      replace hm := hm.out ho53 (by first | omega | (simp only [blk_some, hi1_some] at *; omega))
      replace hlp0 := hlp0.step ho53 (by first | omega | (simp only [blk_some, hi1_some] at *; omega))
      refine rg_end ?_
      refine n_then ?_
      refine wp_seq ?_
      refine rgD 17 (fun w_ => Ext w52 w_) (fun i => false) mixed (by kernel_rfl) ?_
      intro w56 ho57 hs58
      refine ⟨ho57, ?_⟩
      have hx59 := ho57
      refine tn rfl (fun _ hG => mvS rfl) ?_
      refine tn rfl (fun _ hG => y_fld fld36_1 rfl) ?_
      refine tn rfl (fun _ hG => y_lb (hb11.ext hG) na3 rfl rfl) ?_
      refine tn rfl (fun _ hG => y_ix (hm.ext hG) sl31 rfl (rfl) rfl (by omega) (by rw [sdL_len]; omega)) ?_
      refine tn rfl (fun _ hG => y_le (hm.ext hG) na4 rfl (by omega) (by rw [sdL_len]; omega) rfl) ?_
      refine tn rfl (fun _ hG => mvS rfl) ?_
      refine tn rfl (fun _ hG => y_fld fld36_2 rfl) ?_
      refine tn rfl (fun _ hG => y_lb (hb11.ext hG) na3 rfl rfl) ?_
      refine tn rfl (fun _ hG => y_ix (hm.ext hG) sl31 rfl (rfl) rfl (by omega) (by rw [sdL_len]; omega)) ?_
      refine tn rfl (fun _ hG => y_le (hm.ext hG) na4 rfl (by omega) (by rw [sdL_len]; omega) rfl) ?_
      refine tn rfl (fun _ hG => y_eqlB rfl rfl Try.underlying4) ?_
      refine tn rfl (fun _ hG => mvS rfl) ?_
      refine tn rfl (fun _ hG => mvI rfl) ?_
      refine tn rfl (fun _ hG => y_ix (hTr.ext hG) sl22 rfl (rfl) rfl (by omega) (by omega)) ?_
      refine tn rfl (fun _ hG => y_le (hTr.ext hG) na3 rfl (by omega) (by omega) rfl) ?_
      refine tn rfl (fun _ hG => mvI rfl) ?_
      refine tn rfl (fun _ hG => y_eql rfl rfl) ?_
      refine t_end ?_
      have hz60 := hx59.size
      replace hL0 := hL0.ext hx59
      replace hE := hE.step hx59 (.inl (Nat.le_refl _))
      replace hN := hN.ext hx59
      replace hb5 := hb5.ext hx59
      replace hTr := hTr.ext hx59
      replace hm := hm.ext hx59
      replace hlp0 := hlp0.step hx59 (.inl (Nat.le_refl _))
      replace hb11 := hb11.ext hx59
      refine st (y_eqlB rfl rfl Try.underlying4) ?_
      refine rg_end ?_
      refine n_then ?_
      refine cnd rfl (fun hc3 => ?_) (fun hc3 => ?_)
      ·
        try simp only [decide_eq_true_eq, decide_eq_false_iff_not, Bool.not_eq_true', Bool.not_eq_false', Bool.and_eq_true, Bool.or_eq_true, Bool.or_eq_false_iff, Bool.cond_true_right, Bool.cond_false_right, Bool.cond_true_left, Bool.cond_false_left, ne_eq, Decidable.not_not, bne_iff_ne, beq_iff_eq, beq_eq_false_iff_ne, Bool.not_true, Bool.not_false] at hc3
        exfalso
        by_cases e : el tree (k : Int) = (el tree (j : Int))
        · rw [e] at hs1 hs2 hc3
          rw [side_fr hfo har] at hs1
          rw [side_to] at hs2
          simp [hs1, hs2] at hc3
        · rw [side_keep hmk e, ← hs2] at hs1
          simp [hs1, e] at hc3
      ·
        try simp only [decide_eq_true_eq, decide_eq_false_iff_not, Bool.not_eq_true', Bool.not_eq_false', Bool.and_eq_true, Bool.or_eq_true, Bool.or_eq_false_iff, Bool.cond_true_right, Bool.cond_false_right, Bool.cond_true_left, Bool.cond_false_left, ne_eq, Decidable.not_not, bne_iff_ne, beq_iff_eq, beq_eq_false_iff_ne, Bool.not_true, Bool.not_false] at hc3
        refine wp_skip ?_
        refine n_blk ?_
        refine n_then ?_
        refine rg ?_
        refine st (y_add rfl rfl (by omega)) ?_
        refine st (mvI rfl) ?_
        refine rg_end ?_
        exact n_then ⟨k + 1, _, rfl, same_lk rfl (same_h0), ⟨rfl, trivial⟩, ⟨hlp0, by omega⟩, by first | omega | (dsimp only; omega)⟩
    ·
      try simp only [decide_eq_true_eq, decide_eq_false_iff_not, Bool.not_eq_true', Bool.not_eq_false', Bool.and_eq_true, Bool.or_eq_true, Bool.or_eq_false_iff, Bool.cond_true_right, Bool.cond_false_right, Bool.cond_true_left, Bool.cond_false_left, ne_eq, Decidable.not_not, bne_iff_ne, beq_iff_eq, beq_eq_false_iff_ne, Bool.not_true, Bool.not_false] at hc2
      refine wp_exit ?_
      refine e_then (e_then (e_blk (?_)))
      refine n_then ?_
      refine wp_seq ?_
      refine rg ?_
      refine sc cl14 (law16_awake_ok _) rfl ?_
      rintro v65 w61 ⟨rfl, ho62⟩
      have hz66 := ho62.size
      replace hL0 := hL0.ext ho62
      replace hE := hE.step ho62 (.inl (Nat.le_refl _))
      replace hN := hN.ext ho62
      replace hb5 := hb5.ext ho62
      replace hTr := hTr.ext ho62
      replace hm := hm.ext ho62
      refine st (mvB rfl) ?_
      refine stg rfl rfl rfl (mvS rfl) ?_
      refine stg rfl rfl rfl (y_fld fld26_2 rfl) ?_
      refine stg rfl rfl rfl (y_lb hb5 na24 rfl rfl) ?_
      refine stg rfl rfl rfl (mvI rfl) ?_
      refine stg rfl rfl rfl (y_ix hN.a sl24 rfl (rfl) rfl (by omega) (by omega)) ?_
      refine stg rfl rfl rfl (y_fld fld36_2 rfl) ?_
      refine stg rfl rfl rfl (y_lf hN.a na3 rfl (by omega) (by omega) rfl) ?_
      refine stg rfl rfl rfl (y_ix hm sl31 rfl (rfl) rfl (by omega) (by rw [sdL_len]; omega)) ?_
      refine stg rfl rfl rfl (y_le hm na4 rfl (by omega) (by rw [sdL_len]; omega) rfl) ?_
      refine st (y_pickT rfl rfl (v := .bool _) rfl) ?_
      refine st (mvB rfl) ?_
      refine stg rfl rfl ((sdL_el g2 g3).trans side_to) (mvS rfl) ?_
      refine stg rfl rfl ((sdL_el g2 g3).trans side_to) (y_fld fld26_2 rfl) ?_
      refine stg rfl rfl ((sdL_el g2 g3).trans side_to) (y_lb hb5 na24 rfl rfl) ?_
      refine stg rfl rfl ((sdL_el g2 g3).trans side_to) (mvI rfl) ?_
      refine stg rfl rfl ((sdL_el g2 g3).trans side_to) (y_ix hN.a sl24 rfl (rfl) rfl (by omega) (by omega)) ?_
      refine stg rfl rfl ((sdL_el g2 g3).trans side_to) (y_fld fld36_1 rfl) ?_
      refine stg rfl rfl ((sdL_el g2 g3).trans side_to) (y_lf hN.a na3 rfl (by omega) (by omega) rfl) ?_
      refine stg rfl rfl ((sdL_el g2 g3).trans side_to) (y_ix hm sl31 rfl (rfl) rfl (by omega) (by rw [sdL_len]; omega)) ?_
      refine stg rfl rfl ((sdL_el g2 g3).trans side_to) (y_le hm na4 rfl (by omega) (by rw [sdL_len]; omega) rfl) ?_
      refine stg rfl rfl ((sdL_el g2 g3).trans side_to) (y_not rfl) ?_
      refine st (y_pickT rfl ((sdL_el g2 g3).trans side_to) (v := .bool _) rfl) ?_
      refine st (asB rfl) ?_
      refine rg_end ?_
      refine n_then ?_
      refine wp_ret ?_
      refine ret1 (v := (.bool _)) Try.results3 rfl ?_
      exact ⟨vb (by rw [sdL_el g0 g1, side_fr hfo har]; rfl), hE⟩
end Go.Proofs.Ytgekfafangcggaa
