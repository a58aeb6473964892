/-
  Walks of the functions, printed by a program out of the code and the loops' relations.
-/
import Derived.Test.YtgekfafangcggaaWkD
import Derived.Test.YtgekfafangcggaaProg
import Derived.KernelRfl
import Derived.Test.YtgekfafangcggaaS8
namespace Go.Proofs.Ytgekfafangcggaa
open Go.Wk Go.RowKit
set_option linter.unusedVariables false
set_option linter.unusedSimpArgs false
theorem bsl22_2 (a0 : Int) (a1 : Int) (w : World) : (Instr.buildSlice 22 2 [(0, (.int .i64 a0)), (1, (.int .i64 a1))].toArray).run Try.prog w = .ok (.slice (some ⟨w.heap.size, 0, none⟩) 2 2) (w.alloc (.cells [(.int .i64 a0), (.int .i64 a1)].toArray 3)) := by kernel_rfl
theorem cl17 : Callable Try.prog 17 := ⟨Try.call17⟩
theorem cl19 : Callable Try.prog 19 := ⟨Try.call19⟩
theorem cl21 : Callable Try.prog 21 := ⟨Try.call21⟩
theorem cl25 : Callable Try.prog 25 := ⟨Try.call25⟩
theorem cl27 : Callable Try.prog 27 := ⟨Try.call27⟩
theorem cl30 : Callable Try.prog 30 := ⟨Try.call30⟩
theorem cl31 : Callable Try.prog 31 := ⟨Try.call31⟩
theorem cl32 : Callable Try.prog 32 := ⟨Try.call32⟩
theorem cl51 : Callable Try.prog 51 := ⟨Try.call51⟩
theorem cl54 : Callable Try.prog 54 := ⟨Try.call54⟩

theorem ct_uniq {N : Net} {tree : List Int} {arc : Int} {m m' : List Bool} {e e' : Int} (a : ¬ FoOk N tree → m = [] ∧ e = 1) (b : FoOk N tree → ¬ arc ∈ tree → m = [] ∧ e = 4) (c : FoOk N tree → arc ∈ tree → m = sdL N tree arc ∧ e = 0) (a' : ¬ FoOk N tree → m' = [] ∧ e' = 1) (b' : FoOk N tree → ¬ arc ∈ tree → m' = [] ∧ e' = 4) (c' : FoOk N tree → arc ∈ tree → m' = sdL N tree arc ∧ e' = 0) : m = m' ∧ e = e' := by
  by_cases h1 : FoOk N tree
  · by_cases h2 : arc ∈ tree
    · have x := c h1 h2; have y := c' h1 h2; exact ⟨x.1.trans y.1.symm, x.2.trans y.2.symm⟩
    · have x := b h1 h2; have y := b' h1 h2; exact ⟨x.1.trans y.1.symm, x.2.trans y.2.symm⟩
  · have x := a h1; have y := a' h1; exact ⟨x.1.trans y.1.symm, x.2.trans y.2.symm⟩
theorem ct_len {N : Net} {tree : List Int} {arc : Int} {m : List Bool} {e : Int} (a : ¬ FoOk N tree → m = [] ∧ e = 1) (b : FoOk N tree → ¬ arc ∈ tree → m = [] ∧ e = 4) (c : FoOk N tree → arc ∈ tree → m = sdL N tree arc ∧ e = 0) : (m.length : Int) ≤ 512 := by
  by_cases h1 : FoOk N tree
  · by_cases h2 : arc ∈ tree
    · rw [(c h1 h2).1, sdL_len]; have := h1.ok.ev; omega
    · rw [(b h1 h2).1]; simp
  · rw [(a h1).1]; simp
theorem SmR.len {N : Net} {tree t : List Int} {B : Int} {f T : List Int} {m e : Int} (h : SmR N tree t B f T m e) : f.length ≤ 512 ∧ T.length ≤ 512 := by
  by_cases h1 : FoOk N tree ∧ feas N t = true
  · by_cases h2 : 0 ≤ B ∧ B ≤ 1048576
    · have x := h.c h1.1 h1.2 h2
      have y := smF_ok B.toNat tree t h1.1 h1.2
      have q1 := fo_len y.1
      have q2 := (feas_iff.1 y.2.1).1.len
      have q3 := h1.1.ok.ac
      have q4 := h1.1.ok.ev
      rw [x.1, x.2.1]; omega
    · have x := h.b h1.1 h1.2 h2; rw [x.1, x.2.1]; simp
  · have x := h.a h1; rw [x.1, x.2.1]; simp

set_option maxHeartbeats 2000000 in
set_option maxRecDepth 100000 in
theorem law16_agrees_ok (N : Net) (A : NetA) (lo hi : Nat) (tree : List Int) (ar : Option Addr) (cr lr hr_ : Nat) (t : List Int) (at_ : Option Addr) (ct : Nat) (lt ht : Nat) (out into : Int) (w : World) (hN : NetIn lo hi w N A) (hTr : Ints lr hr_ w ar tree) (htn : (tree.length : Int) ≤ 9223372036854775807) (hT : Ints lt ht w at_ t) (hio : -9223372036854775808 ≤ into ∧ into ≤ 9223372036854775807) : Cal Try.prog 30 [netV N A, .slice ar tree.length cr, .slice at_ t.length ct, .int .i64 out, .int .i64 into] w (fun v w' => v = .bool true ∧ Ext w w') := by
  replace hN := hN.full
  replace hTr := Ints.full hTr
  replace hT := Ints.full hT
  have hE : Out 0 0 w w := Out.refl _ _ w
  refine enter Try.func30 rfl Try.ntmps30 rfl ?_
  refine wp_seq ?_
  refine rg ?_
  refine sd (d_boxA rfl ?_)
  intro b5 w1 hbb5 hs3 ho2 hb5
  have hz4 := ho2.size
  replace hN := hN.ext ho2
  replace hTr := hTr.ext ho2
  replace hT := hT.ext ho2
  replace hE := hE.step ho2 (.inl (Nat.le_refl _))
  refine st (asB rfl) ?_
  refine rg_end ?_
  refine n_then ?_
  refine wp_seq ?_
  refine rg ?_
  refine st (y_lbN hb5 agg26 rfl) ?_
  refine st (mvS rfl) ?_
  refine st (mvI rfl) ?_
  refine sc cl16 (simplex_Cut_ok N A _ _ tree _ _ _ _ out _ hN hTr (by first | omega | decide)) rfl ?_
  rintro v9 w5 ⟨am1, cm1, m1, em1, rfl, hm1, pa1, pb1, pc1, ho6⟩
  have hz10 := ho6.size
  replace hN := hN.ext ho6
  replace hTr := hTr.ext ho6
  replace hT := hT.ext ho6
  replace hE := hE.step ho6 (.inl (Nat.le_refl _))
  replace hb5 := hb5.ext ho6
  refine st (mvT rfl) ?_
  refine st (y_ext rfl rfl) ?_
  refine st (y_ext rfl rfl) ?_
  refine st (asS rfl) ?_
  refine st (asI rfl) ?_
  refine rg_end ?_
  refine n_then ?_
  refine wp_seq ?_
  refine rg ?_
  refine st (y_lbN hb5 agg26 rfl) ?_
  refine st (mvS rfl) ?_
  refine st (mvI rfl) ?_
  refine sc cl51 (ref13_Cut_ok N A _ _ tree _ _ _ _ out _ hN hTr (by first | omega | decide)) rfl ?_
  rintro v15 w11 ⟨am2, cm2, m2, em2, rfl, hm2, pa2, pb2, pc2, ho12⟩
  obtain ⟨rfl, rfl⟩ := ct_uniq pa1 pb1 pc1 pa2 pb2 pc2
  have hmn := ct_len pa1 pb1 pc1
  have hz16 := ho12.size
  replace hN := hN.ext ho12
  replace hTr := hTr.ext ho12
  replace hT := hT.ext ho12
  replace hE := hE.step ho12 (.inl (Nat.le_refl _))
  replace hb5 := hb5.ext ho12
  replace hm1 := hm1.ext ho12
  refine st (mvT rfl) ?_
  refine st (y_ext rfl rfl) ?_
  refine st (y_ext rfl rfl) ?_
  refine st (asS rfl) ?_
  refine st (asI rfl) ?_
  refine rg_end ?_
  refine n_then ?_
  refine wp_seq ?_
  refine rg ?_
  refine st (y_lbN hb5 agg26 rfl) ?_
  refine st (mvS rfl) ?_
  refine st (mvS rfl) ?_
  refine st (mvI rfl) ?_
  refine st (mvI rfl) ?_
  refine sc cl17 (simplex_Move_ok N A _ _ tree _ _ _ _ t _ _ _ _ out into _ hN hTr (by first | omega | decide) hT) rfl ?_
  rintro v21 w17 ⟨af3, cf3, f3, ax3, cx3, T3, e3, rfl, hF3, hX3, hd3, hr3, ho18⟩
  have hz22 := ho18.size
  replace hN := hN.ext ho18
  replace hTr := hTr.ext ho18
  replace hT := hT.ext ho18
  replace hE := hE.step ho18 (.inl (Nat.le_refl _))
  replace hb5 := hb5.ext ho18
  replace hm1 := hm1.ext ho18
  replace hm2 := hm2.ext ho18
  refine st (mvT rfl) ?_
  refine st (y_ext rfl rfl) ?_
  refine st (y_ext rfl rfl) ?_
  refine st (y_ext rfl rfl) ?_
  refine st (asS rfl) ?_
  refine st (asS rfl) ?_
  refine st (asI rfl) ?_
  refine rg_end ?_
  refine n_then ?_
  refine wp_seq ?_
  refine rg ?_
  refine st (y_lbN hb5 agg26 rfl) ?_
  refine st (mvS rfl) ?_
  refine st (mvS rfl) ?_
  refine st (mvI rfl) ?_
  refine st (mvI rfl) ?_
  refine sc cl52 (ref13_Move_ok N A _ _ tree _ _ _ _ t _ _ _ _ out into _ hN hTr (by omega) hT (by omega)) rfl ?_
  rintro v27 w23 ⟨af4, cf4, f4, ax4, cx4, T4, e4, rfl, hF4, hX4, hr4, ho24⟩
  obtain ⟨rfl, rfl, rfl⟩ := hr3.uniq hr4
  have hln := hr3.len
  have hz28 := ho24.size
  replace hN := hN.ext ho24
  replace hTr := hTr.ext ho24
  replace hT := hT.ext ho24
  replace hE := hE.step ho24 (.inl (Nat.le_refl _))
  replace hb5 := hb5.ext ho24
  replace hm1 := hm1.ext ho24
  replace hm2 := hm2.ext ho24
  replace hF3 := hF3.ext ho24
  replace hX3 := hX3.ext ho24
  refine st (mvT rfl) ?_
  refine st (y_ext rfl rfl) ?_
  refine st (y_ext rfl rfl) ?_
  refine st (y_ext rfl rfl) ?_
  refine st (asS rfl) ?_
  refine st (asS rfl) ?_
  refine st (asI rfl) ?_
  refine rg_end ?_
  refine n_then ?_
  refine wp_seq ?_
  refine rg ?_
  refine st (y_lbN hb5 agg26 rfl) ?_
  refine st (mvS rfl) ?_
  refine st (mvS rfl) ?_
  refine sc cl27 (simplex_Best_ok N A _ _ tree _ _ _ _ t _ _ _ _ _ hN hTr (by omega) hT) rfl ?_
  rintro v33 w29 ⟨o5, i5, k5, e5, rfl, hq5, ho30⟩
  have hz34 := ho30.size
  replace hN := hN.ext ho30
  replace hTr := hTr.ext ho30
  replace hT := hT.ext ho30
  replace hE := hE.step ho30 (.inl (Nat.le_refl _))
  replace hb5 := hb5.ext ho30
  replace hm1 := hm1.ext ho30
  replace hm2 := hm2.ext ho30
  replace hF3 := hF3.ext ho30
  replace hX3 := hX3.ext ho30
  replace hF4 := hF4.ext ho30
  replace hX4 := hX4.ext ho30
  refine st (mvT rfl) ?_
  refine st (y_ext rfl rfl) ?_
  refine st (y_ext rfl rfl) ?_
  refine st (y_ext rfl rfl) ?_
  refine st (y_ext rfl rfl) ?_
  refine st (asI rfl) ?_
  refine st (asI rfl) ?_
  refine st (asB rfl) ?_
  refine st (asI rfl) ?_
  refine rg_end ?_
  refine n_then ?_
  refine wp_seq ?_
  refine rg ?_
  refine st (y_lbN hb5 agg26 rfl) ?_
  refine st (mvS rfl) ?_
  refine st (mvS rfl) ?_
  refine sc cl53 (ref13_Best_ok N A _ _ tree _ _ _ _ t _ _ _ _ _ hN hTr (by omega) hT) rfl ?_
  rintro v39 w35 ⟨o6, i6, k6, e6, rfl, hq6, ho36⟩
  obtain ⟨rfl, rfl, rfl, rfl⟩ := hq5.uniq hq6
  have hz40 := ho36.size
  replace hN := hN.ext ho36
  replace hTr := hTr.ext ho36
  replace hT := hT.ext ho36
  replace hE := hE.step ho36 (.inl (Nat.le_refl _))
  replace hb5 := hb5.ext ho36
  replace hm1 := hm1.ext ho36
  replace hm2 := hm2.ext ho36
  replace hF3 := hF3.ext ho36
  replace hX3 := hX3.ext ho36
  replace hF4 := hF4.ext ho36
  replace hX4 := hX4.ext ho36
  refine st (mvT rfl) ?_
  refine st (y_ext rfl rfl) ?_
  refine st (y_ext rfl rfl) ?_
  refine st (y_ext rfl rfl) ?_
  refine st (y_ext rfl rfl) ?_
  refine st (asI rfl) ?_
  refine st (asI rfl) ?_
  refine st (asB rfl) ?_
  refine st (asI rfl) ?_
  refine rg_end ?_
  refine n_then ?_
  refine wp_seq ?_
  refine rg ?_
  refine st (mvS rfl) ?_
  refine st (mvS rfl) ?_
  refine sc cl37 (keep_Same_bool_ok m1 m1 _ _ _ _ _ _ _ _ _ hm1 hm2 (by omega)) rfl ?_
  rintro v45 w41 ⟨rfl, ho42⟩
  have hz46 := ho42.size
  replace hN := hN.ext ho42
  replace hTr := hTr.ext ho42
  replace hT := hT.ext ho42
  replace hE := hE.step ho42 (.inl (Nat.le_refl _))
  replace hb5 := hb5.ext ho42
  replace hm1 := hm1.ext ho42
  replace hm2 := hm2.ext ho42
  replace hF3 := hF3.ext ho42
  replace hX3 := hX3.ext ho42
  replace hF4 := hF4.ext ho42
  replace hX4 := hX4.ext ho42
  refine st (mvB rfl) ?_
  refine stg rfl rfl (decide_eq_true rfl) (mvI rfl) ?_
  refine stg rfl rfl (decide_eq_true rfl) (mvI rfl) ?_
  refine stg rfl rfl (decide_eq_true rfl) (y_eql rfl rfl) ?_
  refine st (y_pickT rfl (decide_eq_true rfl) (v := .bool _) rfl) ?_
  refine st (mvB rfl) ?_
  refine stg rfl rfl (decide_eq_true rfl) (mvS rfl) ?_
  refine stg rfl rfl (decide_eq_true rfl) (mvS rfl) ?_
  refine scg rfl rfl (decide_eq_true rfl) cl19 (keep_Same_int_ok f3 f3 _ _ _ _ _ _ _ _ _ (Ow.sl hF3) hF4 (by omega)) rfl ?_
  rintro v51 w47 ⟨rfl, ho48⟩
  have hz52 := ho48.size
  replace hN := hN.ext ho48
  replace hTr := hTr.ext ho48
  replace hT := hT.ext ho48
  replace hE := hE.step ho48 (.inl (Nat.le_refl _))
  replace hb5 := hb5.ext ho48
  replace hm1 := hm1.ext ho48
  replace hm2 := hm2.ext ho48
  replace hF3 := hF3.ext ho48
  replace hX3 := hX3.ext ho48
  replace hF4 := hF4.ext ho48
  replace hX4 := hX4.ext ho48
  refine st (y_pickT rfl (decide_eq_true rfl) (v := .bool _) rfl) ?_
  refine st (mvB rfl) ?_
  refine stg rfl rfl (decide_eq_true rfl) (mvS rfl) ?_
  refine stg rfl rfl (decide_eq_true rfl) (mvS rfl) ?_
  refine scg rfl rfl (decide_eq_true rfl) cl19 (keep_Same_int_ok T3 T3 _ _ _ _ _ _ _ _ _ (Ow.sl hX3) hX4 (by omega)) rfl ?_
  rintro v57 w53 ⟨rfl, ho54⟩
  have hz58 := ho54.size
  replace hN := hN.ext ho54
  replace hTr := hTr.ext ho54
  replace hT := hT.ext ho54
  replace hE := hE.step ho54 (.inl (Nat.le_refl _))
  replace hb5 := hb5.ext ho54
  replace hm1 := hm1.ext ho54
  replace hm2 := hm2.ext ho54
  replace hF3 := hF3.ext ho54
  replace hX3 := hX3.ext ho54
  replace hF4 := hF4.ext ho54
  replace hX4 := hX4.ext ho54
  refine st (y_pickT rfl (decide_eq_true rfl) (v := .bool _) rfl) ?_
  refine st (mvB rfl) ?_
  refine stg rfl rfl (decide_eq_true rfl) (mvI rfl) ?_
  refine stg rfl rfl (decide_eq_true rfl) (mvI rfl) ?_
  refine stg rfl rfl (decide_eq_true rfl) (y_eql rfl rfl) ?_
  refine st (y_pickT rfl (decide_eq_true rfl) (v := .bool _) rfl) ?_
  refine st (mvB rfl) ?_
  refine stg rfl rfl (decide_eq_true rfl) (mvI rfl) ?_
  refine stg rfl rfl (decide_eq_true rfl) (mvI rfl) ?_
  refine stg rfl rfl (decide_eq_true rfl) (y_eql rfl rfl) ?_
  refine st (y_pickT rfl (decide_eq_true rfl) (v := .bool _) rfl) ?_
  refine st (mvB rfl) ?_
  refine stg rfl rfl (decide_eq_true rfl) (mvI rfl) ?_
  refine stg rfl rfl (decide_eq_true rfl) (mvI rfl) ?_
  refine stg rfl rfl (decide_eq_true rfl) (y_eql rfl rfl) ?_
  refine st (y_pickT rfl (decide_eq_true rfl) (v := .bool _) rfl) ?_
  refine st (mvB rfl) ?_
  refine stg rfl rfl (decide_eq_true rfl) (mvB rfl) ?_
  refine stg rfl rfl (decide_eq_true rfl) (mvB rfl) ?_
  refine stg rfl rfl (decide_eq_true rfl) (y_eqlB rfl rfl Try.underlying4) ?_
  refine st (y_pickT rfl (decide_eq_true rfl) (v := .bool _) rfl) ?_
  refine st (mvB rfl) ?_
  refine stg rfl rfl (beq_iff_eq.2 rfl) (mvI rfl) ?_
  refine stg rfl rfl (beq_iff_eq.2 rfl) (mvI rfl) ?_
  refine stg rfl rfl (beq_iff_eq.2 rfl) (y_eql rfl rfl) ?_
  refine st (y_pickT rfl (beq_iff_eq.2 rfl) (v := .bool _) rfl) ?_
  refine st (asB rfl) ?_
  refine rg_end ?_
  refine n_then ?_
  refine wp_ret ?_
  refine ret1 (v := (.bool _)) Try.results30 rfl ?_
  exact ⟨congrArg Value.bool (decide_eq_true rfl), hE⟩

set_option maxHeartbeats 1000000 in
set_option maxRecDepth 100000 in
theorem law16_solves_ok (N : Net) (A : NetA) (lo hi : Nat) (tree : List Int) (ar : Option Addr) (cr lr hr_ : Nat) (t : List Int) (at_ : Option Addr) (ct : Nat) (lt ht : Nat) (B : Int) (w : World) (hN : NetIn lo hi w N A) (hTr : Ints lr hr_ w ar tree) (htn : (tree.length : Int) ≤ 9223372036854775807) (hT : Ints lt ht w at_ t)  : Cal Try.prog 31 [netV N A, .slice ar tree.length cr, .slice at_ t.length ct, .int .i64 B] w (fun v w' => v = .bool true ∧ Ext w w') := by
  replace hN := hN.full
  replace hTr := Ints.full hTr
  replace hT := Ints.full hT
  have hE : Out 0 0 w w := Out.refl _ _ w
  refine enter Try.func31 rfl Try.ntmps31 rfl ?_
  refine wp_seq ?_
  refine rg ?_
  refine sd (d_boxA rfl ?_)
  intro b4 w1 hbb4 hs3 ho2 hb4
  have hz4 := ho2.size
  replace hN := hN.ext ho2
  replace hTr := hTr.ext ho2
  replace hT := hT.ext ho2
  replace hE := hE.step ho2 (.inl (Nat.le_refl _))
  refine st (asB rfl) ?_
  refine rg_end ?_
  refine n_then ?_
  refine wp_seq ?_
  refine rg ?_
  refine st (y_lbN hb4 agg26 rfl) ?_
  refine st (mvS rfl) ?_
  refine st (mvS rfl) ?_
  refine st (mvI rfl) ?_
  refine sc cl25 (simplex_Solve_ok N A _ _ tree _ _ _ _ t _ _ _ _ B _ hN hTr (by omega) hT) rfl ?_
  rintro v9 w5 ⟨af1, cf1, f1, ax1, cx1, T1, m1, e1, rfl, hF1, hX1, hdj1, hr1, ho6⟩
  have hz10 := ho6.size
  replace hN := hN.ext ho6
  replace hTr := hTr.ext ho6
  replace hT := hT.ext ho6
  replace hE := hE.step ho6 (.inl (Nat.le_refl _))
  replace hb4 := hb4.ext ho6
  refine st (mvT rfl) ?_
  refine st (y_ext rfl rfl) ?_
  refine st (y_ext rfl rfl) ?_
  refine st (y_ext rfl rfl) ?_
  refine st (y_ext rfl rfl) ?_
  refine st (asS rfl) ?_
  refine st (asS rfl) ?_
  refine st (asI rfl) ?_
  refine st (asI rfl) ?_
  refine rg_end ?_
  refine n_then ?_
  refine wp_seq ?_
  refine rg ?_
  refine st (y_lbN hb4 agg26 rfl) ?_
  refine st (mvS rfl) ?_
  refine st (mvS rfl) ?_
  refine st (mvI rfl) ?_
  refine sc cl54 (ref13_Simplex_ok N A _ _ tree _ _ _ _ t _ _ _ _ B _ hN hTr (by omega) hT) rfl ?_
  rintro v15 w11 ⟨af2, cf2, f2, ax2, cx2, T2, m2, e2, rfl, hF2, hX2, hr2, ho12⟩
  obtain ⟨rfl, rfl, rfl, rfl⟩ := hr1.uniq hr2
  have hln := hr1.len
  have hz16 := ho12.size
  replace hN := hN.ext ho12
  replace hTr := hTr.ext ho12
  replace hT := hT.ext ho12
  replace hE := hE.step ho12 (.inl (Nat.le_refl _))
  replace hb4 := hb4.ext ho12
  replace hF1 := hF1.ext ho12
  replace hX1 := hX1.ext ho12
  refine st (mvT rfl) ?_
  refine st (y_ext rfl rfl) ?_
  refine st (y_ext rfl rfl) ?_
  refine st (y_ext rfl rfl) ?_
  refine st (y_ext rfl rfl) ?_
  refine st (asS rfl) ?_
  refine st (asS rfl) ?_
  refine st (asI rfl) ?_
  refine st (asI rfl) ?_
  refine rg_end ?_
  refine n_then ?_
  refine wp_seq ?_
  refine rg ?_
  refine st (mvS rfl) ?_
  refine st (mvS rfl) ?_
  refine sc cl19 (keep_Same_int_ok f1 f1 _ _ _ _ _ _ _ _ _ (Ow.sl hF1) hF2 (by omega)) rfl ?_
  rintro v21 w17 ⟨rfl, ho18⟩
  have hz22 := ho18.size
  replace hN := hN.ext ho18
  replace hTr := hTr.ext ho18
  replace hT := hT.ext ho18
  replace hE := hE.step ho18 (.inl (Nat.le_refl _))
  replace hb4 := hb4.ext ho18
  replace hF1 := hF1.ext ho18
  replace hX1 := hX1.ext ho18
  replace hF2 := hF2.ext ho18
  replace hX2 := hX2.ext ho18
  refine st (mvB rfl) ?_
  refine stg rfl rfl (decide_eq_true rfl) (mvS rfl) ?_
  refine stg rfl rfl (decide_eq_true rfl) (mvS rfl) ?_
  refine scg rfl rfl (decide_eq_true rfl) cl19 (keep_Same_int_ok T1 T1 _ _ _ _ _ _ _ _ _ (Ow.sl hX1) hX2 (by omega)) rfl ?_
  rintro v27 w23 ⟨rfl, ho24⟩
  have hz28 := ho24.size
  replace hN := hN.ext ho24
  replace hTr := hTr.ext ho24
  replace hT := hT.ext ho24
  replace hE := hE.step ho24 (.inl (Nat.le_refl _))
  replace hb4 := hb4.ext ho24
  replace hF1 := hF1.ext ho24
  replace hX1 := hX1.ext ho24
  replace hF2 := hF2.ext ho24
  replace hX2 := hX2.ext ho24
  refine st (y_pickT rfl (decide_eq_true rfl) (v := .bool _) rfl) ?_
  refine st (mvB rfl) ?_
  refine stg rfl rfl (decide_eq_true rfl) (mvI rfl) ?_
  refine stg rfl rfl (decide_eq_true rfl) (mvI rfl) ?_
  refine stg rfl rfl (decide_eq_true rfl) (y_eql rfl rfl) ?_
  refine st (y_pickT rfl (decide_eq_true rfl) (v := .bool _) rfl) ?_
  refine st (mvB rfl) ?_
  refine stg rfl rfl (decide_eq_true rfl) (mvI rfl) ?_
  refine stg rfl rfl (decide_eq_true rfl) (mvI rfl) ?_
  refine stg rfl rfl (decide_eq_true rfl) (y_eql rfl rfl) ?_
  refine st (y_pickT rfl (decide_eq_true rfl) (v := .bool _) rfl) ?_
  refine st (asB rfl) ?_
  refine rg_end ?_
  refine n_then ?_
  refine wp_ret ?_
  refine ret1 (v := (.bool _)) Try.results31 rfl ?_
  exact ⟨congrArg Value.bool (decide_eq_true rfl), hE⟩

set_option maxRecDepth 100000 in
theorem law16_SimplexRaw_ok (N : Net) (A : NetA) (lo hi : Nat) (tree : List Int) (ar : Option Addr) (cr lr hr_ : Nat) (t : List Int) (at_ : Option Addr) (ct : Nat) (lt ht : Nat) (out into B : Int) (w : World) (hN : NetIn lo hi w N A) (hTr : Ints lr hr_ w ar tree) (htn : (tree.length : Int) ≤ 9223372036854775807) (hT : Ints lt ht w at_ t) (hio : -9223372036854775808 ≤ into ∧ into ≤ 9223372036854775807) : Cal Try.prog 9 [netV N A, .slice ar tree.length cr, .slice at_ t.length ct, .int .i64 out, .int .i64 into, .int .i64 B] w (fun v w' => v = .bool true ∧ Ext w w') := by
  replace hN := hN.full
  replace hTr := Ints.full hTr
  replace hT := Ints.full hT
  have hE : Out 0 0 w w := Out.refl _ _ w
  refine enter Try.func9 rfl Try.ntmps9 rfl ?_
  refine wp_seq ?_
  refine rg ?_
  refine sd (d_boxA rfl ?_)
  intro b6 w1 hbb6 hs3 ho2 hb6
  have hz4 := ho2.size
  replace hN := hN.ext ho2
  replace hTr := hTr.ext ho2
  replace hT := hT.ext ho2
  replace hE := hE.step ho2 (.inl (Nat.le_refl _))
  refine st (asB rfl) ?_
  refine rg_end ?_
  refine n_then ?_
  refine wp_seq ?_
  refine rg ?_
  refine sc cl14 (law16_awake_ok _) rfl ?_
  rintro v9 w5 ⟨rfl, ho6⟩
  have hz10 := ho6.size
  replace hN := hN.ext ho6
  replace hTr := hTr.ext ho6
  replace hT := hT.ext ho6
  replace hE := hE.step ho6 (.inl (Nat.le_refl _))
  replace hb6 := hb6.ext ho6
  refine st (mvB rfl) ?_
  refine stg rfl rfl rfl (y_lbN hb6 agg26 rfl) ?_
  refine stg rfl rfl rfl (mvS rfl) ?_
  refine stg rfl rfl rfl (mvS rfl) ?_
  refine stg rfl rfl rfl (mvI rfl) ?_
  refine stg rfl rfl rfl (mvI rfl) ?_
  refine scg rfl rfl rfl cl30 (law16_agrees_ok N A _ _ tree _ _ _ _ t _ _ _ _ out into _ hN hTr htn hT hio) rfl ?_
  rintro v15 w11 ⟨rfl, ho12⟩
  have hz16 := ho12.size
  replace hN := hN.ext ho12
  replace hTr := hTr.ext ho12
  replace hT := hT.ext ho12
  replace hE := hE.step ho12 (.inl (Nat.le_refl _))
  replace hb6 := hb6.ext ho12
  refine st (y_pickT rfl rfl (v := .bool _) rfl) ?_
  refine st (mvB rfl) ?_
  refine stg rfl rfl rfl (y_lbN hb6 agg26 rfl) ?_
  refine stg rfl rfl rfl (mvS rfl) ?_
  refine stg rfl rfl rfl (mvS rfl) ?_
  refine stg rfl rfl rfl (mvI rfl) ?_
  refine scg rfl rfl rfl cl31 (law16_solves_ok N A _ _ tree _ _ _ _ t _ _ _ _ B _ hN hTr htn hT) rfl ?_
  rintro v21 w17 ⟨rfl, ho18⟩
  have hz22 := ho18.size
  replace hN := hN.ext ho18
  replace hTr := hTr.ext ho18
  replace hT := hT.ext ho18
  replace hE := hE.step ho18 (.inl (Nat.le_refl _))
  replace hb6 := hb6.ext ho18
  refine st (y_pickT rfl rfl (v := .bool _) rfl) ?_
  refine st (mvB rfl) ?_
  refine scg rfl rfl rfl cl18 (law16_small_ok _) rfl ?_
  rintro v27 w23 ⟨A9, rfl, hN9, hO9, _, ho24⟩
  have hz28 := ho24.size
  replace hN := hN.ext ho24
  replace hTr := hTr.ext ho24
  replace hT := hT.ext ho24
  replace hE := hE.step ho24 (.inl (Nat.le_refl _))
  replace hb6 := hb6.ext ho24
  refine stg rfl rfl rfl (mvS rfl) ?_
  refine stg rfl rfl rfl (mvS rfl) ?_
  refine stg rfl rfl rfl (mvI rfl) ?_
  refine stg rfl rfl rfl (mvI rfl) ?_
  refine scg rfl rfl rfl cl30 (law16_agrees_ok smN A9 _ _ tree _ _ _ _ t _ _ _ _ out into _ hN9 hTr htn hT hio) rfl ?_
  rintro v33 w29 ⟨rfl, ho30⟩
  have hz34 := ho30.size
  replace hN := hN.ext ho30
  replace hTr := hTr.ext ho30
  replace hT := hT.ext ho30
  replace hE := hE.step ho30 (.inl (Nat.le_refl _))
  replace hb6 := hb6.ext ho30
  replace hN9 := hN9.ext ho30
  refine st (y_pickT rfl rfl (v := .bool _) rfl) ?_
  refine st (asB rfl) ?_
  refine rg_end ?_
  refine n_then ?_
  refine wp_ret ?_
  refine ret1 (v := (.bool _)) Try.results9 rfl ?_
  exact ⟨rfl, hE⟩

set_option maxHeartbeats 1000000 in
set_option maxRecDepth 100000 in
theorem law16_SimplexGenerated_ok (a0 : Option Addr) (c0 : Nat) (l0 : List Int) (a1 : Option Addr) (c1 : Nat) (l1 : List Int) (out into B : Int) (w : World) (hL0 : Ints 0 w.heap.size w a0 l0) (hl0 : (l0.length : Int) ≤ 9223372036854775807) (hL1 : Ints 0 w.heap.size w a1 l1) (hl1 : (l1.length : Int) ≤ 9223372036854775807)  : Cal Try.prog 10 [.slice a0 l0.length c0, .slice a1 l1.length c1, .int .i64 out, .int .i64 into, .int .i64 B] w (fun v w' => v = .bool true ∧ Ext w w') := by
  have hE : Out 0 0 w w := Out.refl _ _ w
  refine enter Try.func10 rfl Try.ntmps10 rfl ?_
  refine wp_seq ?_
  refine rg ?_
  refine st (asB rfl) ?_
  refine rg_end ?_
  refine n_then ?_
  refine wp_seq ?_
  refine rg ?_
  refine st (mvS rfl) ?_
  refine sc cl32 (keep_Slack_ok _ _ _ _ _ _ hL0 hl0) rfl ?_
  rintro v5 w1 ⟨N, A, rfl, hsm, hN, ho2⟩
  have hok := hsm.1
  have hac := hok.ac
  have hev := hok.ev
  have hp2 := hok.p2
  have hp7 := hok.p7
  have hz6 := ho2.size
  replace hL0 := hL0.ext ho2
  replace hL1 := hL1.ext ho2
  replace hE := hE.step ho2 (.inl (Nat.le_refl _))
  refine sd (d_allocA zer26 ?_)
  intro b11 w7 hbb11 hs9 ho8 hb11
  have hz10 := ho8.size
  replace hL0 := hL0.ext ho8
  replace hL1 := hL1.ext ho8
  replace hE := hE.step ho8 (.inl (Nat.le_refl _))
  replace hN := hN.ext ho8
  refine sd0 (d_stN hb11 rfl rfl sz26 rfl rfl ?_)
  intro w11 hs13 ho12 hb11'
  clear hb11; have hb11 := hb11'; clear hb11'
  have hz14 := ho12.size
  replace hL0 := hL0.out ho12 (by first | omega | (simp only [blk_some, hi1_some] at *; omega))
  replace hL1 := hL1.out ho12 (by first | omega | (simp only [blk_some, hi1_some] at *; omega))
  replace hE := hE.step ho12 (by first | omega | (simp only [blk_some, hi1_some] at *; omega))
  replace hN := hN.out ho12 (by first | omega | (simp only [blk_some, hi1_some] at *; omega))
  refine rg_end ?_
  refine n_then ?_
  refine wp_seq ?_
  refine rg ?_
  refine st (y_fld fld26_2 rfl) ?_
  refine st (y_lb hb11 na24 rfl rfl) ?_
  refine st (y_len Try.underlying24 rfl) ?_
  refine st (y_add rfl rfl (by omega)) ?_
  refine st (asI rfl) ?_
  refine rg_end ?_
  refine n_then ?_
  refine wp_seq ?_
  refine rg ?_
  refine st (mvI rfl) ?_
  refine st (mvI rfl) ?_
  refine sc cl15 (keep_Pick_ok _ _ _ (by omega) (by omega)) rfl ?_
  rintro v19 w15 ⟨rfl, ho16⟩
  have hp1 := pick_rng out ((N.acts.length : Int) + 2) (by omega)
  have hz20 := ho16.size
  replace hL0 := hL0.ext ho16
  replace hL1 := hL1.ext ho16
  replace hE := hE.step ho16 (.inl (Nat.le_refl _))
  replace hN := hN.ext ho16
  replace hb11 := hb11.ext ho16
  refine st (y_sub rfl rfl (by omega)) ?_
  refine st (mvI rfl) ?_
  refine st (mvI rfl) ?_
  refine sc cl15 (keep_Pick_ok _ _ _ (by omega) (by omega)) rfl ?_
  rintro v25 w21 ⟨rfl, ho22⟩
  have hp2 := pick_rng into ((N.acts.length : Int) + 2) (by omega)
  have hz26 := ho22.size
  replace hL0 := hL0.ext ho22
  replace hL1 := hL1.ext ho22
  replace hE := hE.step ho22 (.inl (Nat.le_refl _))
  replace hN := hN.ext ho22
  replace hb11 := hb11.ext ho22
  refine st (y_sub rfl rfl (by omega)) ?_
  refine st (asI rfl) ?_
  refine st (asI rfl) ?_
  refine rg_end ?_
  refine n_then ?_
  refine wp_seq ?_
  refine rg ?_
  refine st (y_lbN hb11 agg26 rfl) ?_
  refine st (mvS rfl) ?_
  refine sc cl21 (keep_Times_ok N A _ _ _ _ _ _ _ _ hN hL1 hl1 (by omega) (by omega)) rfl ?_
  rintro v31 w27 ⟨ax, cx, x, rfl, hX, hxl, hxr, ho28⟩
  have hg : GoodT N x := ⟨hok, hxl, hxr⟩
  have hz32 := ho28.size
  replace hL0 := hL0.ext ho28
  replace hL1 := hL1.ext ho28
  replace hE := hE.step ho28 (.inl (Nat.le_refl _))
  replace hN := hN.ext ho28
  replace hb11 := hb11.ext ho28
  refine st (asS rfl) ?_
  refine rg_end ?_
  refine n_then ?_
  refine wp_seq ?_
  refine rgD 18 (fun w_ => Ext w27 w_) (fun i => Nat.beq i 0 || Nat.beq i 4 || Nat.beq i 8 || Nat.beq i 13 || Nat.beq i 16) mixed (by kernel_rfl) ?_
  intro w33 ho34 hs35
  refine ⟨ho34, ?_⟩
  have hx36 := ho34
  refine tc rfl cl14 (law16_awake_ok _) rfl ?_
  rintro v41 w37 ⟨rfl, ho38⟩
  have hx42 := hx36.step ho38 (.inl (Nat.le_refl _))
  have hz43 := ho38.size
  refine ⟨hx42, ?_⟩
  refine tn rfl (fun _ hG => mvB rfl) ?_
  refine tng rfl rfl rfl rfl (fun _ hG => y_lbN (hb11.ext hG) agg26 rfl) ?_
  refine tng rfl rfl rfl rfl (fun _ hG => y_lbN (hb11.ext hG) agg26 rfl) ?_
  refine tcg rfl rfl rfl rfl cl13 (ref11_TreeF_ok N A _ _ _ (hN.ext hx42) hok) rfl ?_
  rintro v48 w44 ⟨ar1, cr1, tree1, rfl, hTr1, hfo1, htl1, hcap1, ho45⟩
  have hx49 := hx42.step ho45 (.inl (Nat.le_refl _))
  have hz50 := ho45.size
  refine ⟨hx49, ?_⟩
  refine tng rfl rfl rfl rfl (fun _ hG => mvS rfl) ?_
  refine tng rfl rfl rfl rfl (fun _ hG => mvI rfl) ?_
  refine tng rfl rfl rfl rfl (fun _ hG => mvI rfl) ?_
  refine tcg rfl rfl rfl rfl cl30 (law16_agrees_ok N A _ _ tree1 _ _ _ _ x _ _ _ _ (pick out ((N.acts.length : Int) + 2) - 1) (pick into ((N.acts.length : Int) + 2) - 1) _ (hN.ext hx49) hTr1 (by omega) (hX.ext hx49) (by omega)) rfl ?_
  rintro v55 w51 ⟨rfl, ho52⟩
  have hx56 := hx49.step ho52 (.inl (Nat.le_refl _))
  have hz57 := ho52.size
  replace hTr1 := hTr1.ext ho52
  refine ⟨hx56, ?_⟩
  refine tn rfl (fun _ hG => y_pickT rfl rfl (v := .bool _) rfl) ?_
  refine tn rfl (fun _ hG => mvB rfl) ?_
  refine tng rfl rfl rfl rfl (fun _ hG => y_lbN (hb11.ext hG) agg26 rfl) ?_
  refine tng rfl rfl rfl rfl (fun _ hG => y_lbN (hb11.ext hG) agg26 rfl) ?_
  refine tcg rfl rfl rfl rfl cl13 (ref11_TreeF_ok N A _ _ _ (hN.ext hx56) hok) rfl ?_
  rintro v62 w58 ⟨ar2, cr2, tree2, rfl, hTr2, hfo2, htl2, hcap2, ho59⟩
  have hx63 := hx56.step ho59 (.inl (Nat.le_refl _))
  have hz64 := ho59.size
  replace hTr1 := hTr1.ext ho59
  refine ⟨hx63, ?_⟩
  refine tng rfl rfl rfl rfl (fun _ hG => mvS rfl) ?_
  refine tng rfl rfl rfl rfl (fun _ hG => mvI rfl) ?_
  refine tcg rfl rfl rfl rfl cl15 (keep_Pick_ok _ _ _ (by omega) (by omega)) rfl ?_
  rintro v69 w65 ⟨rfl, ho66⟩
  have hp3 := pick_rng B 9 (by omega)
  have hx70 := hx63.step ho66 (.inl (Nat.le_refl _))
  have hz71 := ho66.size
  replace hTr1 := hTr1.ext ho66
  replace hTr2 := hTr2.ext ho66
  refine ⟨hx70, ?_⟩
  refine tng rfl rfl rfl rfl (fun _ hG => y_sub rfl rfl (by omega)) ?_
  refine t_end ?_
  have hz72 := hx70.size
  replace hL0 := hL0.ext hx70
  replace hL1 := hL1.ext hx70
  replace hE := hE.step hx70 (.inl (Nat.le_refl _))
  replace hN := hN.ext hx70
  replace hb11 := hb11.ext hx70
  replace hX := hX.ext hx70
  refine scg rfl rfl rfl cl31 (law16_solves_ok N A _ _ tree2 _ _ _ _ x _ _ _ _ (pick B 9 - 1) _ hN hTr2 (by omega) hX) rfl ?_
  rintro v77 w73 ⟨rfl, ho74⟩
  have hz78 := ho74.size
  replace hL0 := hL0.ext ho74
  replace hL1 := hL1.ext ho74
  replace hE := hE.step ho74 (.inl (Nat.le_refl _))
  replace hN := hN.ext ho74
  replace hb11 := hb11.ext ho74
  replace hX := hX.ext ho74
  replace hTr1 := hTr1.ext ho74
  replace hTr2 := hTr2.ext ho74
  refine st (y_pickT rfl rfl (v := .bool _) rfl) ?_
  refine st (asB rfl) ?_
  refine rg_end ?_
  refine n_then ?_
  refine wp_ret ?_
  refine ret1 (v := (.bool _)) Try.results10 rfl ?_
  exact ⟨rfl, hE⟩

def smN9 : Net := ⟨10, List.replicate 2 ⟨0, 0, 0⟩, [⟨0, 0, 1, 2, 9, 1⟩, ⟨0, 1, 0, 1, 9, 3⟩]⟩
theorem sm9_fo : FoOk smN9 [0] := by
  refine ⟨netOk_iff.1 (by kernel_rfl), ⟨fun q hq => ?_, fun q hq => ?_, fun q hq => ?_⟩, fun i hi => ?_⟩
  · match q, hq with
    | 0, _ => decide
  · simp at hq
  · match q, hq with
    | 0, _ => decide
  · match i, hi with
    | 0, _ => decide
    | 1, _ => decide
theorem sm_mva : MvA smN [0] 0 1 := ⟨by simp, by decide, by decide, by decide, by kernel_rfl⟩
theorem sm9_mva : MvA smN9 [0] 0 1 := ⟨by simp, by decide, by decide, by decide, by kernel_rfl⟩
theorem sm_f1 : feas smN [0, 4] = true := by kernel_rfl
theorem sm_f2 : feas smN (moveT smN [0] [0, 4] 0 1) = false := by kernel_rfl
theorem sm9_f1 : feas smN9 [0, 4] = true := by kernel_rfl
theorem sm9_f2 : feas smN9 (moveT smN9 [0] [0, 4] 0 1) = true := by kernel_rfl
theorem sm9_mf : moveF smN9 [0] 0 1 = [1] := by kernel_rfl
theorem sm9_mt : moveT smN9 [0] [0, 4] 0 1 = [0, 9] := by kernel_rfl

set_option maxHeartbeats 1000000 in
set_option maxRecDepth 100000 in
theorem law16_SimplexExamples_ok (w : World) : Cal Try.prog 4 [] w (fun v w' => v = .bool true ∧ Ext w w') := by
  have hE : Out 0 0 w w := Out.refl _ _ w
  refine enter Try.func4 rfl Try.ntmps4 rfl ?_
  refine wp_seq ?_
  refine rg ?_
  refine st (asB rfl) ?_
  refine rg_end ?_
  refine n_then ?_
  refine wp_seq ?_
  refine rg ?_
  refine sc cl18 (law16_small_ok _) rfl ?_
  rintro v5 w1 ⟨A1, rfl, hN1, hO1, _, ho2⟩
  have hz6 := ho2.size
  replace hE := hE.step ho2 (.inl (Nat.le_refl _))
  refine sd (d_bs (bsl22_1 _ _) rfl ?_)
  intro s1 w7 hbs1 hs9 ho8 hs1
  have hs1 : Sl Wk.encI 1 s1 (s1 + 1) w7 (some ⟨s1, 0, none⟩) [(0 : Int)] := Blk.sl (l := [(0 : Int)]) hs1 (fun _ => rfl) (Nat.le_refl _) (Nat.lt_succ_self _)
  have hz10 := ho8.size
  replace hE := hE.step ho8 (.inl (Nat.le_refl _))
  replace hN1 := hN1.ext ho8
  refine sd (d_bs (bsl22_2 _ _ _) rfl ?_)
  intro s2 w11 hbs2 hs13 ho12 hs2
  have hs2 : Sl Wk.encI 1 s2 (s2 + 1) w11 (some ⟨s2, 0, none⟩) [(0 : Int), 4] := Blk.sl (l := [(0 : Int), 4]) hs2 (fun _ => rfl) (Nat.le_refl _) (Nat.lt_succ_self _)
  have hz14 := ho12.size
  replace hE := hE.step ho12 (.inl (Nat.le_refl _))
  replace hN1 := hN1.ext ho12
  replace hs1 := hs1.ext ho12
  refine sc cl17 (simplex_Move_ok smN A1 _ _ [0] _ _ _ _ [0, 4] _ _ _ _ 0 1 _ hN1 hs1 (by first | omega | decide) hs2) rfl ?_
  rintro v19 w15 ⟨af3, cf3, f3, ax3, cx3, T3, e3, rfl, hF3, hX3, hd3, hr3, ho16⟩
  obtain ⟨rfl, rfl, rfl⟩ := hr3.c sm_fo sm_f1 sm_mva sm_f2
  have hz20 := ho16.size
  replace hE := hE.step ho16 (.inl (Nat.le_refl _))
  replace hN1 := hN1.ext ho16
  replace hs1 := hs1.ext ho16
  replace hs2 := hs2.ext ho16
  refine st (mvT rfl) ?_
  refine st (y_ext rfl rfl) ?_
  refine st (y_ext rfl rfl) ?_
  refine st (y_ext rfl rfl) ?_
  refine st (asS rfl) ?_
  refine st (asS rfl) ?_
  refine st (asI rfl) ?_
  refine rg_end ?_
  refine n_then ?_
  refine wp_seq ?_
  refine rg ?_
  refine sc cl18 (law16_small_ok _) rfl ?_
  rintro v25 w21 ⟨A2, rfl, hN2, hO2, hdis2, ho22⟩
  obtain ⟨⟨bb, oo, hbo⟩, _⟩ := hN2.e.plain (by simp [smN])
  have hh1 : hi1 A2.ae = blk A2.ae + 1 := by rw [hbo]; rfl
  have hEv2 : Sl encEv 3 (blk A2.ae) (blk A2.ae + 1) _ A2.ae smN.evs := ⟨fun h => ⟨(hN2.e.plain h).1, Nat.le_refl _, Nat.lt_succ_self _⟩, hN2.e.cell⟩
  clear hN2
  have hO2r := hO2.rng
  have hz26 := ho22.size
  replace hE := hE.step ho22 (.inl (Nat.le_refl _))
  replace hN1 := hN1.ext ho22
  replace hs1 := hs1.ext ho22
  replace hs2 := hs2.ext ho22
  replace hF3 := hF3.ext ho22
  replace hX3 := hX3.ext ho22
  refine sd (d_allocA zer26 ?_)
  intro b4 w27 hbb4 hs29 ho28 hb4
  have hz30 := ho28.size
  replace hE := hE.step ho28 (.inl (Nat.le_refl _))
  replace hN1 := hN1.ext ho28
  replace hs1 := hs1.ext ho28
  replace hs2 := hs2.ext ho28
  replace hF3 := hF3.ext ho28
  replace hX3 := hX3.ext ho28
  replace hEv2 := hEv2.ext ho28
  replace hO2 := hO2.ext ho28
  refine sd0 (d_stN hb4 rfl rfl sz26 rfl rfl ?_)
  intro w31 hs33 ho32 hb4'
  clear hb4; have hb4 := hb4'; clear hb4'
  have hz34 := ho32.size
  replace hE := hE.step ho32 (by first | omega | (simp only [blk_some, hi1_some] at *; omega))
  replace hN1 := hN1.out ho32 (by first | omega | (simp only [blk_some, hi1_some] at *; omega))
  replace hs1 := hs1.out ho32 (by first | omega | (simp only [blk_some, hi1_some] at *; omega))
  replace hs2 := hs2.out ho32 (by first | omega | (simp only [blk_some, hi1_some] at *; omega))
  have hrnhF3 := hF3.rng
  replace hF3 := hF3.out ho32 (by first | omega | (simp only [blk_some, hi1_some] at *; omega))
  have hrnhX3 := hX3.rng
  replace hX3 := hX3.out ho32 (by first | omega | (simp only [blk_some, hi1_some] at *; omega))
  replace hEv2 := hEv2.out ho32 (by first | omega | (simp only [blk_some, hi1_some] at *; omega))
  have hrnhO2 := hO2.rng
  replace hO2 := hO2.out ho32 (by first | omega | (simp only [blk_some, hi1_some] at *; omega))
  refine rg_end ?_
  refine n_then ?_
  refine wp_seq ?_
  refine rg ?_
  refine st (y_fld fld26_2 rfl) ?_
  refine st (y_lb hb4 na24 rfl rfl) ?_
  refine st (y_ix hO2.sl sl24 rfl (rfl) rfl (by decide) (by decide)) ?_
  refine st (y_fld fld36_4 rfl) ?_
  refine sd0 (d_se (j := 4) (e' := (⟨0, 0, 1, 2, 9, 1⟩ : Ac)) hO2 sz3 rfl rfl rfl (by decide) (by decide) (Nat.le_of_ble_eq_true rfl) rfl ?_)
  intro w35 hs37 ho36 hO2'
  have hrhO2 := hO2.rng
  clear hO2; have hO2 := hO2'; clear hO2'
  have hz38 := ho36.size
  replace hE := hE.step ho36 (by first | omega | (simp only [blk_some, hi1_some] at *; omega))
  replace hN1 := hN1.out ho36 (by first | omega | (simp only [blk_some, hi1_some] at *; omega))
  replace hs1 := hs1.out ho36 (by first | omega | (simp only [blk_some, hi1_some] at *; omega))
  replace hs2 := hs2.out ho36 (by first | omega | (simp only [blk_some, hi1_some] at *; omega))
  replace hF3 := hF3.out ho36 (by first | omega | (simp only [blk_some, hi1_some] at *; omega))
  replace hX3 := hX3.out ho36 (by first | omega | (simp only [blk_some, hi1_some] at *; omega))
  replace hEv2 := hEv2.out ho36 (by first | omega | (simp only [blk_some, hi1_some] at *; omega))
  replace hb4 := hb4.out ho36 (by first | omega | (simp only [blk_some, hi1_some] at *; omega))
  have hN9 : NetIn _ _ _ smN9 A2 := ⟨Sl.full (fun _ => by simp [encEv]) hEv2, Sl.full (fun _ => by simp [encAc]) (Ow.sl hO2)⟩
  refine rg_end ?_
  refine n_then ?_
  refine wp_seq ?_
  refine rg ?_
  refine st (y_lbN hb4 agg26 rfl) ?_
  refine sd (d_bs (bsl22_1 _ _) rfl ?_)
  intro s3 w39 hbs3 hs41 ho40 hs3
  have hs3 : Sl Wk.encI 1 s3 (s3 + 1) w39 (some ⟨s3, 0, none⟩) [(0 : Int)] := Blk.sl (l := [(0 : Int)]) hs3 (fun _ => rfl) (Nat.le_refl _) (Nat.lt_succ_self _)
  have hz42 := ho40.size
  replace hE := hE.step ho40 (.inl (Nat.le_refl _))
  replace hN1 := hN1.ext ho40
  replace hs1 := hs1.ext ho40
  replace hs2 := hs2.ext ho40
  replace hF3 := hF3.ext ho40
  replace hX3 := hX3.ext ho40
  replace hEv2 := hEv2.ext ho40
  replace hO2 := hO2.ext ho40
  replace hb4 := hb4.ext ho40
  replace hN9 := hN9.ext ho40
  refine sd (d_bs (bsl22_2 _ _ _) rfl ?_)
  intro s4 w43 hbs4 hs45 ho44 hs4
  have hs4 : Sl Wk.encI 1 s4 (s4 + 1) w43 (some ⟨s4, 0, none⟩) [(0 : Int), 4] := Blk.sl (l := [(0 : Int), 4]) hs4 (fun _ => rfl) (Nat.le_refl _) (Nat.lt_succ_self _)
  have hz46 := ho44.size
  replace hE := hE.step ho44 (.inl (Nat.le_refl _))
  replace hN1 := hN1.ext ho44
  replace hs1 := hs1.ext ho44
  replace hs2 := hs2.ext ho44
  replace hF3 := hF3.ext ho44
  replace hX3 := hX3.ext ho44
  replace hEv2 := hEv2.ext ho44
  replace hO2 := hO2.ext ho44
  replace hb4 := hb4.ext ho44
  replace hN9 := hN9.ext ho44
  replace hs3 := hs3.ext ho44
  refine sc cl17 (simplex_Move_ok smN9 A2 _ _ [0] _ _ _ _ [0, 4] _ _ _ _ 0 1 _ hN9 hs3 (by first | omega | decide) hs4) rfl ?_
  rintro v51 w47 ⟨af5, cf5, f5, ax5, cx5, T5, e5, rfl, hF5, hX5, hd5, hr5, ho48⟩
  obtain ⟨rfl, rfl, rfl⟩ := hr5.d sm9_fo sm9_f1 sm9_mva sm9_f2
  have hz52 := ho48.size
  replace hE := hE.step ho48 (.inl (Nat.le_refl _))
  replace hN1 := hN1.ext ho48
  replace hs1 := hs1.ext ho48
  replace hs2 := hs2.ext ho48
  replace hF3 := hF3.ext ho48
  replace hX3 := hX3.ext ho48
  replace hEv2 := hEv2.ext ho48
  replace hO2 := hO2.ext ho48
  replace hb4 := hb4.ext ho48
  replace hN9 := hN9.ext ho48
  replace hs3 := hs3.ext ho48
  replace hs4 := hs4.ext ho48
  refine st (mvT rfl) ?_
  refine st (y_ext rfl rfl) ?_
  refine st (y_ext rfl rfl) ?_
  refine st (y_ext rfl rfl) ?_
  refine st (asS rfl) ?_
  refine st (asS rfl) ?_
  refine st (asI rfl) ?_
  refine rg_end ?_
  refine n_then ?_
  refine wp_seq ?_
  refine rg ?_
  refine st (mvI rfl) ?_
  refine st (y_eql rfl rfl) ?_
  refine st (mvB rfl) ?_
  refine stg rfl rfl (decide_eq_true rfl) (mvI rfl) ?_
  refine stg rfl rfl (decide_eq_true rfl) (y_eql rfl rfl) ?_
  refine st (y_pickT rfl (decide_eq_true rfl) (v := .bool _) rfl) ?_
  refine st (mvB rfl) ?_
  refine stg rfl rfl (decide_eq_true rfl) (mvS rfl) ?_
  refine sdg rfl rfl (decide_eq_true rfl) (d_bs (bsl22_1 _ _) rfl ?_)
  intro s6 w53 hbs6 hs55 ho54 hs6
  have hs6 : Sl Wk.encI 1 s6 (s6 + 1) w53 (some ⟨s6, 0, none⟩) [(1 : Int)] := Blk.sl (l := [(1 : Int)]) hs6 (fun _ => rfl) (Nat.le_refl _) (Nat.lt_succ_self _)
  have hz56 := ho54.size
  replace hE := hE.step ho54 (.inl (Nat.le_refl _))
  replace hN1 := hN1.ext ho54
  replace hs1 := hs1.ext ho54
  replace hs2 := hs2.ext ho54
  replace hF3 := hF3.ext ho54
  replace hX3 := hX3.ext ho54
  replace hEv2 := hEv2.ext ho54
  replace hO2 := hO2.ext ho54
  replace hb4 := hb4.ext ho54
  replace hN9 := hN9.ext ho54
  replace hs3 := hs3.ext ho54
  replace hs4 := hs4.ext ho54
  replace hF5 := hF5.ext ho54
  replace hX5 := hX5.ext ho54
  refine scg rfl rfl (decide_eq_true rfl) cl19 (keep_Same_int_ok (moveF smN9 [0] 0 1) [1] _ _ _ _ _ _ _ _ _ (Ow.sl hF5) hs6 (by rw [sm9_mf]; decide)) rfl ?_
  rintro v61 w57 ⟨rfl, ho58⟩
  have hz62 := ho58.size
  replace hE := hE.step ho58 (.inl (Nat.le_refl _))
  replace hN1 := hN1.ext ho58
  replace hs1 := hs1.ext ho58
  replace hs2 := hs2.ext ho58
  replace hF3 := hF3.ext ho58
  replace hX3 := hX3.ext ho58
  replace hEv2 := hEv2.ext ho58
  replace hO2 := hO2.ext ho58
  replace hb4 := hb4.ext ho58
  replace hN9 := hN9.ext ho58
  replace hs3 := hs3.ext ho58
  replace hs4 := hs4.ext ho58
  replace hF5 := hF5.ext ho58
  replace hX5 := hX5.ext ho58
  replace hs6 := hs6.ext ho58
  refine st (y_pickT rfl (decide_eq_true rfl) (v := .bool _) rfl) ?_
  refine st (mvB rfl) ?_
  refine stg rfl rfl (decide_eq_true sm9_mf) (mvS rfl) ?_
  refine sdg rfl rfl (decide_eq_true sm9_mf) (d_bs (bsl22_2 _ _ _) rfl ?_)
  intro s7 w63 hbs7 hs65 ho64 hs7
  have hs7 : Sl Wk.encI 1 s7 (s7 + 1) w63 (some ⟨s7, 0, none⟩) [(0 : Int), 9] := Blk.sl (l := [(0 : Int), 9]) hs7 (fun _ => rfl) (Nat.le_refl _) (Nat.lt_succ_self _)
  have hz66 := ho64.size
  replace hE := hE.step ho64 (.inl (Nat.le_refl _))
  replace hN1 := hN1.ext ho64
  replace hs1 := hs1.ext ho64
  replace hs2 := hs2.ext ho64
  replace hF3 := hF3.ext ho64
  replace hX3 := hX3.ext ho64
  replace hEv2 := hEv2.ext ho64
  replace hO2 := hO2.ext ho64
  replace hb4 := hb4.ext ho64
  replace hN9 := hN9.ext ho64
  replace hs3 := hs3.ext ho64
  replace hs4 := hs4.ext ho64
  replace hF5 := hF5.ext ho64
  replace hX5 := hX5.ext ho64
  replace hs6 := hs6.ext ho64
  refine scg rfl rfl (decide_eq_true sm9_mf) cl19 (keep_Same_int_ok (moveT smN9 [0] [0, 4] 0 1) [0, 9] _ _ _ _ _ _ _ _ _ (Ow.sl hX5) hs7 (by rw [sm9_mt]; decide)) rfl ?_
  rintro v71 w67 ⟨rfl, ho68⟩
  have hz72 := ho68.size
  replace hE := hE.step ho68 (.inl (Nat.le_refl _))
  replace hN1 := hN1.ext ho68
  replace hs1 := hs1.ext ho68
  replace hs2 := hs2.ext ho68
  replace hF3 := hF3.ext ho68
  replace hX3 := hX3.ext ho68
  replace hEv2 := hEv2.ext ho68
  replace hO2 := hO2.ext ho68
  replace hb4 := hb4.ext ho68
  replace hN9 := hN9.ext ho68
  replace hs3 := hs3.ext ho68
  replace hs4 := hs4.ext ho68
  replace hF5 := hF5.ext ho68
  replace hX5 := hX5.ext ho68
  replace hs6 := hs6.ext ho68
  replace hs7 := hs7.ext ho68
  refine st (y_pickT rfl (decide_eq_true sm9_mf) (v := .bool _) rfl) ?_
  refine st (asB rfl) ?_
  refine rg_end ?_
  refine n_then ?_
  refine wp_ret ?_
  refine ret1 (v := (.bool _)) Try.results4 rfl ?_
  exact ⟨congrArg Value.bool (decide_eq_true sm9_mt), hE⟩
end Go.Proofs.Ytgekfafangcggaa
