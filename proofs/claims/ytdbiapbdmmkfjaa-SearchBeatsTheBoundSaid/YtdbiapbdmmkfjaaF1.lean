/-
  Walks of the functions, printed by a program out of the code and the loops' relations.
-/
import Derived.Test.YtdbiapbdmmkfjaaWkD
import Derived.Test.YtdbiapbdmmkfjaaProg
import Derived.KernelRfl
import Derived.Test.YtdbiapbdmmkfjaaE9
namespace Go.Proofs.Ytdbiapbdmmkfjaa
open Go.Wk Go.RowKit
set_option linter.unusedVariables false
set_option linter.unusedSimpArgs false
theorem bld26_0_1_2 (a0 : Int) (d1 : Option Addr) (l1 : Nat) (c1 : Nat) (d2 : Option Addr) (l2 : Nat) (c2 : Nat) (w : World) : (Instr.build 26 [(0, (.int .i64 a0)), (1, (.slice d1 l1 c1)), (2, (.slice d2 l2 c2))].toArray).run Try.prog w = .ok (.agg [(.int .i64 a0), (.slice d1 l1 c1), (.slice d2 l2 c2)].toArray) w := by kernel_rfl
theorem bld62_1_2_3_4_5 (a1 : Int) (a2 : Int) (a3 : Int) (a4 : Int) (a5 : Int) (w : World) : (Instr.build 62 [(1, (.int .i64 a1)), (2, (.int .i64 a2)), (3, (.int .i64 a3)), (4, (.int .i64 a4)), (5, (.int .i64 a5))].toArray).run Try.prog w = .ok (.agg [.int .i64 0, (.int .i64 a1), (.int .i64 a2), (.int .i64 a3), (.int .i64 a4), (.int .i64 a5)].toArray) w := by kernel_rfl
theorem bsl22_2 (a0 : Int) (a1 : Int) (w : World) : (Instr.buildSlice 22 2 [(0, (.int .i64 a0)), (1, (.int .i64 a1))].toArray).run Try.prog w = .ok (.slice (some ⟨w.heap.size, 0, none⟩) 2 2) (w.alloc (.cells [(.int .i64 a0), (.int .i64 a1)].toArray 3)) := by kernel_rfl
theorem cl13 : Callable Try.prog 13 := ⟨Try.call13⟩
theorem cl15 : Callable Try.prog 15 := ⟨Try.call15⟩
theorem cl18 : Callable Try.prog 18 := ⟨Try.call18⟩
theorem cl19 : Callable Try.prog 19 := ⟨Try.call19⟩
theorem cl20 : Callable Try.prog 20 := ⟨Try.call20⟩
theorem cl22 : Callable Try.prog 22 := ⟨Try.call22⟩
theorem cl23 : Callable Try.prog 23 := ⟨Try.call23⟩
theorem cl28 : Callable Try.prog 28 := ⟨Try.call28⟩
theorem cl42 : Callable Try.prog 42 := ⟨Try.call42⟩
set_option maxRecDepth 100000 in
theorem info60 : ∃ i, Try.prog.info? 60 = some i ∧ i.zero = some (.agg #[.int .i64 0, .int .i64 0, .int .i64 0]) ∧ i.size = 3 ∧ i.bytes = 24 := ⟨Try.t60, Try.type60, rfl, rfl, rfl⟩

def sx : Net := ⟨3, List.replicate 2 ⟨0, 0, 0⟩, [⟨0, 0, 1, 1, 1, 1⟩]⟩
theorem sx_facts : findE sx true 100 = 0 ∧ findE sx false 100 = 0 ∧ findT sx true 100 = [0, 1] ∧ findC sx true 100 = 1 ∧ findU sx true 100 = 4 ∧ findT sx false 100 = [0, 1] ∧ findU sx false 100 = 3 := by
  refine ⟨?_, ?_, ?_, ?_, ?_, ?_, ?_⟩ <;> kernel_rfl
theorem sx_wake : findE sx false 3 = 0 ∧ findU sx false 3 = 3 ∧ (findT sx false 3).length = 2 := by
  refine ⟨?_, ?_, ?_⟩ <;> kernel_rfl

set_option maxRecDepth 100000 in
theorem law17_small_ok (w : World) : Cal Try.prog 19 [] w (fun v w' => ∃ A, v = netV sx A ∧ NetIn w.heap.size w'.heap.size w' sx A ∧ Ext w w') := by
  have hE : Out 0 0 w w := Out.refl _ _ w
  refine enter Try.func19 rfl Try.ntmps19 rfl ?_
  refine wp_seq ?_
  refine rg ?_
  refine sd (d_allocA zer26 ?_)
  intro b0 w1 hbb0 hs3 ho2 hb0
  have hz4 := ho2.size
  replace hE := hE.step ho2 (.inl (Nat.le_refl _))
  refine rg_end ?_
  refine n_then ?_
  refine wp_seq ?_
  refine rg ?_
  refine sd (d_make (m := 2) (lo := w.heap.size) (enc := encEv) (e0 := (⟨0, 0, 0⟩ : Ev)) sl23 info60 (fun _ => rfl) rfl rfl rfl (by omega) (by unfold maxLen; omega) (by omega) ?_)
  intro be w5 hbbe hs7 ho6 hev
  have hz9 := ho6.size
  replace hE := hE.step ho6 (.inl (Nat.le_refl _))
  replace hb0 := hb0.ext ho6
  refine st (y_build (bld62_1_2_3_4_5 _ _ _ _ _ _) rfl) ?_
  refine sd (d_bs (bsl24_1 _ _ _ _ _ _ _) rfl ?_)
  intro ba w10 hbba hs12 ho11 hba
  have hac : Sl encAc 6 ba (ba + 1) w10 (some ⟨ba, 0, none⟩) sx.acts := Blk.sl (l := sx.acts) hba (fun _ => rfl) (Nat.le_refl _) (Nat.lt_succ_self _)
  have hz13 := ho11.size
  replace hE := hE.step ho11 (.inl (Nat.le_refl _))
  replace hb0 := hb0.ext ho11
  replace hev := hev.ext ho11
  refine st (y_build (bld26_0_1_2 _ _ _ _ _ _ _ _) rfl) ?_
  refine sd0 (d_stN hb0 rfl rfl sz26 rfl rfl ?_)
  intro w14 hs16 ho15 hb0'
  clear hb0; have hb0 := hb0'; clear hb0'
  have hz17 := ho15.size
  replace hE := hE.step ho15 (by first | omega | (simp only [blk_some, hi1_some] at *; omega))
  have hrnhev := hev.rng
  replace hev := hev.out ho15 (by first | omega | (simp only [blk_some, hi1_some] at *; omega))
  replace hac := hac.out ho15 (by first | omega | (simp only [blk_some, hi1_some] at *; omega))
  refine rg_end ?_
  refine n_then ?_
  refine wp_ret ?_
  refine retC Try.results19 hb0 agg26 rfl ?_
  exact ⟨⟨some ⟨be, 0, none⟩, 2, some ⟨ba, 0, none⟩, 1⟩, rfl, ⟨Sl.wide hev.sl (by omega) (by omega), Sl.wide hac (by omega) (by omega)⟩, hE⟩

set_option maxRecDepth 100000 in
theorem law17_awake_ok (w : World) : Cal Try.prog 15 [] w (fun v w' => v = .bool true ∧ Ext w w') := by
  obtain ⟨q1, q2, q3⟩ := sx_wake
  have hE : Out 0 0 w w := Out.refl _ _ w
  refine enter Try.func15 rfl Try.ntmps15 rfl ?_
  refine wp_seq ?_
  refine rg ?_
  refine st (asB rfl) ?_
  refine rg_end ?_
  refine n_then ?_
  refine wp_seq ?_
  refine rg ?_
  refine sc cl19 (law17_small_ok _) rfl ?_
  rintro v5 w1 ⟨A0, rfl, hN0, ho2⟩
  have hz6 := ho2.size
  replace hE := hE.step ho2 (.inl (Nat.le_refl _))
  refine sc cl13 (search_Feasible_ok sx A0 _ _ 3 _ hN0) rfl ?_
  rintro v11 w7 ⟨at1, ct1, rfl, hT1, ho8⟩
  have hz12 := ho8.size
  replace hE := hE.step ho8 (.inl (Nat.le_refl _))
  replace hN0 := hN0.ext ho8
  refine st (mvT rfl) ?_
  refine st (y_ext rfl rfl) ?_
  refine st (y_ext rfl rfl) ?_
  refine st (y_ext rfl rfl) ?_
  refine st (asS rfl) ?_
  refine st (asI rfl) ?_
  refine st (asI rfl) ?_
  refine rg_end ?_
  refine n_then ?_
  refine wp_seq ?_
  refine rg ?_
  refine st (mvI rfl) ?_
  refine st (y_eql rfl rfl) ?_
  refine st (mvB rfl) ?_
  refine stg rfl rfl (decide_eq_true q1) (mvI rfl) ?_
  refine stg rfl rfl (decide_eq_true q1) (y_eql rfl rfl) ?_
  refine st (y_pickT rfl (decide_eq_true q1) (v := .bool _) rfl) ?_
  refine st (mvB rfl) ?_
  refine stg rfl rfl (decide_eq_true q2) (mvS rfl) ?_
  refine stg rfl rfl (decide_eq_true q2) (y_len Try.underlying22 rfl) ?_
  refine stg rfl rfl (decide_eq_true q2) (y_eql rfl rfl) ?_
  refine st (y_pickT rfl (decide_eq_true q2) (v := .bool _) rfl) ?_
  refine st (asB rfl) ?_
  refine rg_end ?_
  refine n_then ?_
  refine wp_ret ?_
  refine ret1 (v := (.bool _)) Try.results15 rfl ?_
  exact ⟨by rw [q3]; rfl, hE⟩

set_option maxHeartbeats 1000000 in
set_option maxRecDepth 100000 in
theorem law17_agrees_ok (N : Net) (A : NetA) (lo hi : Nat) (B : Int) (w : World) (hN : NetIn lo hi w N A)  : Cal Try.prog 22 [netV N A, .int .i64 B] w (fun v w' => v = .bool true ∧ Ext w w') := by
  replace hN := hN.full
  have hE : Out 0 0 w w := Out.refl _ _ w
  refine enter Try.func22 rfl Try.ntmps22 rfl ?_
  refine wp_seq ?_
  refine rg ?_
  refine sd (d_boxA rfl ?_)
  intro b2 w1 hbb2 hs3 ho2 hb2
  have hz4 := ho2.size
  replace hN := hN.ext ho2
  replace hE := hE.step ho2 (.inl (Nat.le_refl _))
  refine st (asB rfl) ?_
  refine rg_end ?_
  refine n_then ?_
  refine wp_seq ?_
  refine rg ?_
  refine st (y_lbN hb2 agg26 rfl) ?_
  refine st (mvI rfl) ?_
  refine sc cl13 (search_Feasible_ok N A _ _ B _ hN) rfl ?_
  rintro v9 w5 ⟨at1, ct1, rfl, hT1, ho6⟩
  have hz10 := ho6.size
  replace hN := hN.ext ho6
  replace hE := hE.step ho6 (.inl (Nat.le_refl _))
  replace hb2 := hb2.ext ho6
  refine st (mvT rfl) ?_
  refine st (y_ext rfl rfl) ?_
  refine st (y_ext rfl rfl) ?_
  refine st (y_ext rfl rfl) ?_
  refine st (asS rfl) ?_
  refine st (asI rfl) ?_
  refine st (asI rfl) ?_
  refine rg_end ?_
  refine n_then ?_
  refine wp_seq ?_
  refine rg ?_
  refine st (y_lbN hb2 agg26 rfl) ?_
  refine st (mvI rfl) ?_
  refine sc cl28 (ref17_Feasible_ok N A _ _ B _ hN) rfl ?_
  rintro v15 w11 ⟨at2, ct2, rfl, hT2, ho12⟩
  have hz16 := ho12.size
  replace hN := hN.ext ho12
  replace hE := hE.step ho12 (.inl (Nat.le_refl _))
  replace hb2 := hb2.ext ho12
  replace hT1 := hT1.ext ho12
  refine st (mvT rfl) ?_
  refine st (y_ext rfl rfl) ?_
  refine st (y_ext rfl rfl) ?_
  refine st (y_ext rfl rfl) ?_
  refine st (asS rfl) ?_
  refine st (asI rfl) ?_
  refine st (asI rfl) ?_
  refine rg_end ?_
  refine n_then ?_
  refine wp_seq ?_
  refine rg ?_
  refine st (y_lbN hb2 agg26 rfl) ?_
  refine st (mvI rfl) ?_
  refine sc cl18 (search_Solve_ok N A _ _ B _ hN) rfl ?_
  rintro v21 w17 ⟨at3, ct3, rfl, hT3, ho18⟩
  have hz22 := ho18.size
  replace hN := hN.ext ho18
  replace hE := hE.step ho18 (.inl (Nat.le_refl _))
  replace hb2 := hb2.ext ho18
  replace hT1 := hT1.ext ho18
  replace hT2 := hT2.ext ho18
  refine st (mvT rfl) ?_
  refine st (y_ext rfl rfl) ?_
  refine st (y_ext rfl rfl) ?_
  refine st (y_ext rfl rfl) ?_
  refine st (y_ext rfl rfl) ?_
  refine st (asS rfl) ?_
  refine st (asI rfl) ?_
  refine st (asI rfl) ?_
  refine st (asI rfl) ?_
  refine rg_end ?_
  refine n_then ?_
  refine wp_seq ?_
  refine rg ?_
  refine st (y_lbN hb2 agg26 rfl) ?_
  refine st (mvI rfl) ?_
  refine sc cl42 (ref17_Solve_ok N A _ _ B _ hN) rfl ?_
  rintro v27 w23 ⟨at4, ct4, rfl, hT4, ho24⟩
  have hz28 := ho24.size
  replace hN := hN.ext ho24
  replace hE := hE.step ho24 (.inl (Nat.le_refl _))
  replace hb2 := hb2.ext ho24
  replace hT1 := hT1.ext ho24
  replace hT2 := hT2.ext ho24
  replace hT3 := hT3.ext ho24
  refine st (mvT rfl) ?_
  refine st (y_ext rfl rfl) ?_
  refine st (y_ext rfl rfl) ?_
  refine st (y_ext rfl rfl) ?_
  refine st (y_ext rfl rfl) ?_
  refine st (asS rfl) ?_
  refine st (asI rfl) ?_
  refine st (asI rfl) ?_
  refine st (asI rfl) ?_
  refine rg_end ?_
  refine n_then ?_
  refine wp_seq ?_
  refine rg ?_
  refine st (mvS rfl) ?_
  refine st (mvS rfl) ?_
  refine sc cl20 (keep_Same_int_ok _ _ _ _ _ _ _ _ _ _ _ hT1 hT2 (by have := findT_len (N := N) (all := false) (B := B); omega)) rfl ?_
  rintro v33 w29 ⟨rfl, ho30⟩
  have hz34 := ho30.size
  replace hN := hN.ext ho30
  replace hE := hE.step ho30 (.inl (Nat.le_refl _))
  replace hb2 := hb2.ext ho30
  replace hT1 := hT1.ext ho30
  replace hT2 := hT2.ext ho30
  replace hT3 := hT3.ext ho30
  replace hT4 := hT4.ext ho30
  refine st (mvB rfl) ?_
  refine stg rfl rfl (by simp) (mvI rfl) ?_
  refine stg rfl rfl (by simp) (mvI rfl) ?_
  refine stg rfl rfl (by simp) (y_eql rfl rfl) ?_
  refine st (y_pickT rfl (by simp) (v := .bool _) rfl) ?_
  refine st (mvB rfl) ?_
  refine stg rfl rfl (decide_eq_true rfl) (mvI rfl) ?_
  refine stg rfl rfl (decide_eq_true rfl) (mvI rfl) ?_
  refine stg rfl rfl (decide_eq_true rfl) (y_eql rfl rfl) ?_
  refine st (y_pickT rfl (decide_eq_true rfl) (v := .bool _) rfl) ?_
  refine st (mvB rfl) ?_
  refine stg rfl rfl (decide_eq_true rfl) (mvS rfl) ?_
  refine stg rfl rfl (decide_eq_true rfl) (mvS rfl) ?_
  refine scg rfl rfl (decide_eq_true rfl) cl20 (keep_Same_int_ok _ _ _ _ _ _ _ _ _ _ _ hT3 hT4 (by have := findT_len (N := N) (all := true) (B := B); omega)) rfl ?_
  rintro v39 w35 ⟨rfl, ho36⟩
  have hz40 := ho36.size
  replace hN := hN.ext ho36
  replace hE := hE.step ho36 (.inl (Nat.le_refl _))
  replace hb2 := hb2.ext ho36
  replace hT1 := hT1.ext ho36
  replace hT2 := hT2.ext ho36
  replace hT3 := hT3.ext ho36
  replace hT4 := hT4.ext ho36
  refine st (y_pickT rfl (decide_eq_true rfl) (v := .bool _) rfl) ?_
  refine st (mvB rfl) ?_
  refine stg rfl rfl (by simp) (mvI rfl) ?_
  refine stg rfl rfl (by simp) (mvI rfl) ?_
  refine stg rfl rfl (by simp) (y_eql rfl rfl) ?_
  refine st (y_pickT rfl (by simp) (v := .bool _) rfl) ?_
  refine st (mvB rfl) ?_
  refine stg rfl rfl (decide_eq_true rfl) (mvI rfl) ?_
  refine stg rfl rfl (decide_eq_true rfl) (mvI rfl) ?_
  refine stg rfl rfl (decide_eq_true rfl) (y_eql rfl rfl) ?_
  refine st (y_pickT rfl (decide_eq_true rfl) (v := .bool _) rfl) ?_
  refine st (mvB rfl) ?_
  refine stg rfl rfl (decide_eq_true rfl) (mvI rfl) ?_
  refine stg rfl rfl (decide_eq_true rfl) (mvI rfl) ?_
  refine stg rfl rfl (decide_eq_true rfl) (y_eql rfl rfl) ?_
  refine st (y_pickT rfl (decide_eq_true rfl) (v := .bool _) rfl) ?_
  refine st (asB rfl) ?_
  refine rg_end ?_
  refine n_then ?_
  refine wp_ret ?_
  refine ret1 (v := (.bool _)) Try.results22 rfl ?_
  exact ⟨vb (by simp), hE⟩

set_option maxRecDepth 100000 in
theorem law17_SearchExamples_ok (w : World) : Cal Try.prog 4 [] w (fun v w' => v = .bool true ∧ Ext w w') := by
  obtain ⟨q1, q2, q3, q4, q5, q6, q7⟩ := sx_facts
  have hE : Out 0 0 w w := Out.refl _ _ w
  refine enter Try.func4 rfl Try.ntmps4 rfl ?_
  refine wp_seq ?_
  refine rg ?_
  refine st (asB rfl) ?_
  refine rg_end ?_
  refine n_then ?_
  refine wp_seq ?_
  refine rg ?_
  refine sc cl19 (law17_small_ok _) rfl ?_
  rintro v5 w1 ⟨A0, rfl, hN0, ho2⟩
  have hz6 := ho2.size
  replace hE := hE.step ho2 (.inl (Nat.le_refl _))
  refine sc cl18 (search_Solve_ok sx A0 _ _ 100 _ hN0) rfl ?_
  rintro v11 w7 ⟨at1, ct1, rfl, hT1, ho8⟩
  have hz12 := ho8.size
  replace hE := hE.step ho8 (.inl (Nat.le_refl _))
  replace hN0 := hN0.ext ho8
  refine st (mvT rfl) ?_
  refine st (y_ext rfl rfl) ?_
  refine st (y_ext rfl rfl) ?_
  refine st (y_ext rfl rfl) ?_
  refine st (y_ext rfl rfl) ?_
  refine st (asS rfl) ?_
  refine st (asI rfl) ?_
  refine st (asI rfl) ?_
  refine st (asI rfl) ?_
  refine rg_end ?_
  refine n_then ?_
  refine wp_seq ?_
  refine rg ?_
  refine sc cl19 (law17_small_ok _) rfl ?_
  rintro v17 w13 ⟨A5, rfl, hN5, ho14⟩
  have hz18 := ho14.size
  replace hE := hE.step ho14 (.inl (Nat.le_refl _))
  replace hN0 := hN0.ext ho14
  replace hT1 := hT1.ext ho14
  refine sc cl13 (search_Feasible_ok sx A5 _ _ 100 _ hN5) rfl ?_
  rintro v23 w19 ⟨at2, ct2, rfl, hT2, ho20⟩
  have hz24 := ho20.size
  replace hE := hE.step ho20 (.inl (Nat.le_refl _))
  replace hN0 := hN0.ext ho20
  replace hT1 := hT1.ext ho20
  replace hN5 := hN5.ext ho20
  refine st (mvT rfl) ?_
  refine st (y_ext rfl rfl) ?_
  refine st (y_ext rfl rfl) ?_
  refine st (y_ext rfl rfl) ?_
  refine st (asS rfl) ?_
  refine st (asI rfl) ?_
  refine st (asI rfl) ?_
  refine rg_end ?_
  refine n_then ?_
  refine wp_seq ?_
  refine rg ?_
  refine st (mvI rfl) ?_
  refine st (y_eql rfl rfl) ?_
  refine st (mvB rfl) ?_
  refine stg rfl rfl (decide_eq_true q1) (mvI rfl) ?_
  refine stg rfl rfl (decide_eq_true q1) (y_eql rfl rfl) ?_
  refine st (y_pickT rfl (decide_eq_true q1) (v := .bool _) rfl) ?_
  refine st (mvB rfl) ?_
  refine stg rfl rfl (decide_eq_true q2) (mvS rfl) ?_
  refine sdg rfl rfl (decide_eq_true q2) (d_bs (bsl22_2 _ _ _) rfl ?_)
  intro bl1 w25 hbbl1 hs27 ho26 hbl1
  have hl1 : Sl encI 1 bl1 (bl1 + 1) w25 (some ⟨bl1, 0, none⟩) [(0 : Int), 1] := Blk.sl (l := [(0 : Int), 1]) hbl1 (fun _ => rfl) (Nat.le_refl _) (Nat.lt_succ_self _)
  have hz28 := ho26.size
  replace hE := hE.step ho26 (.inl (Nat.le_refl _))
  replace hN0 := hN0.ext ho26
  replace hT1 := hT1.ext ho26
  replace hN5 := hN5.ext ho26
  replace hT2 := hT2.ext ho26
  refine scg rfl rfl (decide_eq_true q2) cl20 (keep_Same_int_ok _ [0, 1] _ _ _ _ _ _ _ _ _ hT1 hl1 (by have := findT_len (N := sx) (all := true) (B := 100); omega)) rfl ?_
  rintro v33 w29 ⟨rfl, ho30⟩
  have hz34 := ho30.size
  replace hE := hE.step ho30 (.inl (Nat.le_refl _))
  replace hN0 := hN0.ext ho30
  replace hT1 := hT1.ext ho30
  replace hN5 := hN5.ext ho30
  replace hT2 := hT2.ext ho30
  replace hl1 := hl1.ext ho30
  refine st (y_pickT rfl (decide_eq_true q2) (v := .bool _) rfl) ?_
  refine st (mvB rfl) ?_
  refine stg rfl rfl (decide_eq_true q3) (mvI rfl) ?_
  refine stg rfl rfl (decide_eq_true q3) (y_eql rfl rfl) ?_
  refine st (y_pickT rfl (decide_eq_true q3) (v := .bool _) rfl) ?_
  refine st (mvB rfl) ?_
  refine stg rfl rfl (decide_eq_true q4) (mvI rfl) ?_
  refine stg rfl rfl (decide_eq_true q4) (y_eql rfl rfl) ?_
  refine st (y_pickT rfl (decide_eq_true q4) (v := .bool _) rfl) ?_
  refine st (mvB rfl) ?_
  refine stg rfl rfl (decide_eq_true q5) (mvS rfl) ?_
  refine sdg rfl rfl (decide_eq_true q5) (d_bs (bsl22_2 _ _ _) rfl ?_)
  intro bl2 w35 hbbl2 hs37 ho36 hbl2
  have hl2 : Sl encI 1 bl2 (bl2 + 1) w35 (some ⟨bl2, 0, none⟩) [(0 : Int), 1] := Blk.sl (l := [(0 : Int), 1]) hbl2 (fun _ => rfl) (Nat.le_refl _) (Nat.lt_succ_self _)
  have hz38 := ho36.size
  replace hE := hE.step ho36 (.inl (Nat.le_refl _))
  replace hN0 := hN0.ext ho36
  replace hT1 := hT1.ext ho36
  replace hN5 := hN5.ext ho36
  replace hT2 := hT2.ext ho36
  replace hl1 := hl1.ext ho36
  refine scg rfl rfl (decide_eq_true q5) cl20 (keep_Same_int_ok _ [0, 1] _ _ _ _ _ _ _ _ _ hT2 hl2 (by have := findT_len (N := sx) (all := false) (B := 100); omega)) rfl ?_
  rintro v43 w39 ⟨rfl, ho40⟩
  have hz44 := ho40.size
  replace hE := hE.step ho40 (.inl (Nat.le_refl _))
  replace hN0 := hN0.ext ho40
  replace hT1 := hT1.ext ho40
  replace hN5 := hN5.ext ho40
  replace hT2 := hT2.ext ho40
  replace hl1 := hl1.ext ho40
  replace hl2 := hl2.ext ho40
  refine st (y_pickT rfl (decide_eq_true q5) (v := .bool _) rfl) ?_
  refine st (mvB rfl) ?_
  refine stg rfl rfl (decide_eq_true q6) (mvI rfl) ?_
  refine stg rfl rfl (decide_eq_true q6) (y_eql rfl rfl) ?_
  refine st (y_pickT rfl (decide_eq_true q6) (v := .bool _) rfl) ?_
  refine st (asB rfl) ?_
  refine rg_end ?_
  refine n_then ?_
  refine wp_ret ?_
  refine ret1 (v := (.bool _)) Try.results4 rfl ?_
  exact ⟨by rw [q7]; rfl, hE⟩

set_option maxRecDepth 100000 in
theorem law17_SearchRaw_ok (N : Net) (A : NetA) (lo hi : Nat) (B : Int) (w : World) (hN : NetIn lo hi w N A)  : Cal Try.prog 5 [netV N A, .int .i64 B] w (fun v w' => v = .bool true ∧ Ext w w') := by
  replace hN := hN.full
  have hpb := pick_rng B 300 (by omega)
  have hE : Out 0 0 w w := Out.refl _ _ w
  refine enter Try.func5 rfl Try.ntmps5 rfl ?_
  refine wp_seq ?_
  refine rg ?_
  refine sd (d_boxA rfl ?_)
  intro b2 w1 hbb2 hs3 ho2 hb2
  have hz4 := ho2.size
  replace hN := hN.ext ho2
  replace hE := hE.step ho2 (.inl (Nat.le_refl _))
  refine st (asB rfl) ?_
  refine rg_end ?_
  refine n_then ?_
  refine wp_seq ?_
  refine rg ?_
  refine st (mvI rfl) ?_
  refine sc cl21 (keep_Pick_ok _ _ _ (by omega) (by omega)) rfl ?_
  rintro v9 w5 ⟨rfl, ho6⟩
  have hz10 := ho6.size
  replace hN := hN.ext ho6
  replace hE := hE.step ho6 (.inl (Nat.le_refl _))
  replace hb2 := hb2.ext ho6
  refine st (y_sub rfl rfl (by omega)) ?_
  refine st (asI rfl) ?_
  refine rg_end ?_
  refine n_then ?_
  refine wp_seq ?_
  refine wp_seq ?_
  refine rg ?_
  refine st (mvI rfl) ?_
  refine st (y_lss rfl rfl) ?_
  refine st (mvB rfl) ?_
  refine gspL 11 rfl (fun hg11 => ?_) (fun hg11 => ?_)
  ·
    have hg11n := hg11; try simp only [decide_eq_true_eq, decide_eq_false_iff_not, Bool.not_eq_true', Bool.not_eq_false', Bool.and_eq_true, Bool.or_eq_true, Bool.or_eq_false_iff, Bool.cond_true_right, Bool.cond_false_right, Bool.cond_true_left, Bool.cond_false_left, ne_eq, Decidable.not_not, bne_iff_ne, beq_iff_eq, beq_eq_false_iff_ne, Bool.not_true, Bool.not_false] at hg11n
    refine sts rfl rfl hg11 ?_
    refine sts rfl rfl hg11 ?_
    refine st (y_pickT rfl hg11 (v := .bool _) rfl) ?_
    refine rg_end ?_
    refine n_then ?_
    refine cnd rfl (fun hc0 => ?_) (fun hc0 => absurd hc0 (by decide))
    refine rg ?_
    refine st (mvI rfl) ?_
    refine st (asI rfl) ?_
    refine rg_end ?_
    refine n_then ?_
    refine wp_seq ?_
    refine rg ?_
    refine sc cl15 (law17_awake_ok _) rfl ?_
    rintro v16 w12 ⟨rfl, ho13⟩
    have hz17 := ho13.size
    replace hN := hN.ext ho13
    replace hE := hE.step ho13 (.inl (Nat.le_refl _))
    replace hb2 := hb2.ext ho13
    refine st (mvB rfl) ?_
    refine stg rfl rfl rfl (y_lbN hb2 agg26 rfl) ?_
    refine stg rfl rfl rfl (mvI rfl) ?_
    refine scg rfl rfl rfl cl22 (law17_agrees_ok N A _ _ _ _ hN) rfl ?_
    rintro v22 w18 ⟨rfl, ho19⟩
    have hz23 := ho19.size
    replace hN := hN.ext ho19
    replace hE := hE.step ho19 (.inl (Nat.le_refl _))
    replace hb2 := hb2.ext ho19
    refine st (y_pickT rfl rfl (v := .bool _) rfl) ?_
    refine st (mvB rfl) ?_
    refine scg rfl rfl rfl cl19 (law17_small_ok _) rfl ?_
    rintro v28 w24 ⟨A1, rfl, hN1, ho25⟩
    have hz29 := ho25.size
    replace hN := hN.ext ho25
    replace hE := hE.step ho25 (.inl (Nat.le_refl _))
    replace hb2 := hb2.ext ho25
    refine stg rfl rfl rfl (mvI rfl) ?_
    refine scg rfl rfl rfl cl22 (law17_agrees_ok sx A1 _ _ _ _ hN1) rfl ?_
    rintro v34 w30 ⟨rfl, ho31⟩
    have hz35 := ho31.size
    replace hN := hN.ext ho31
    replace hE := hE.step ho31 (.inl (Nat.le_refl _))
    replace hb2 := hb2.ext ho31
    replace hN1 := hN1.ext ho31
    refine st (y_pickT rfl rfl (v := .bool _) rfl) ?_
    refine st (asB rfl) ?_
    refine rg_end ?_
    refine n_then ?_
    refine wp_ret ?_
    refine ret1 (v := (.bool _)) Try.results5 rfl ?_
    exact ⟨rfl, hE⟩
  ·
    have hg11n := hg11; try simp only [decide_eq_true_eq, decide_eq_false_iff_not, Bool.not_eq_true', Bool.not_eq_false', Bool.and_eq_true, Bool.or_eq_true, Bool.or_eq_false_iff, Bool.cond_true_right, Bool.cond_false_right, Bool.cond_true_left, Bool.cond_false_left, ne_eq, Decidable.not_not, bne_iff_ne, beq_iff_eq, beq_eq_false_iff_ne, Bool.not_true, Bool.not_false] at hg11n
    refine stg rfl rfl hg11 (mvI rfl) ?_
    refine stg rfl rfl hg11 (y_gtr rfl rfl) ?_
    refine st (y_pickF rfl hg11 (v := .bool _) rfl) ?_
    refine rg_end ?_
    refine n_then ?_
    refine cnd rfl (fun hc0 => ?_) (fun hc0 => ?_)
    ·
      try simp only [decide_eq_true_eq, decide_eq_false_iff_not, Bool.not_eq_true', Bool.not_eq_false', Bool.and_eq_true, Bool.or_eq_true, Bool.or_eq_false_iff, Bool.cond_true_right, Bool.cond_false_right, Bool.cond_true_left, Bool.cond_false_left, ne_eq, Decidable.not_not, bne_iff_ne, beq_iff_eq, beq_eq_false_iff_ne, Bool.not_true, Bool.not_false] at hc0
      refine rg ?_
      refine st (mvI rfl) ?_
      refine st (asI rfl) ?_
      refine rg_end ?_
      refine n_then ?_
      refine wp_seq ?_
      refine rg ?_
      refine sc cl15 (law17_awake_ok _) rfl ?_
      rintro v40 w36 ⟨rfl, ho37⟩
      have hz41 := ho37.size
      replace hN := hN.ext ho37
      replace hE := hE.step ho37 (.inl (Nat.le_refl _))
      replace hb2 := hb2.ext ho37
      refine st (mvB rfl) ?_
      refine stg rfl rfl rfl (y_lbN hb2 agg26 rfl) ?_
      refine stg rfl rfl rfl (mvI rfl) ?_
      refine scg rfl rfl rfl cl22 (law17_agrees_ok N A _ _ _ _ hN) rfl ?_
      rintro v46 w42 ⟨rfl, ho43⟩
      have hz47 := ho43.size
      replace hN := hN.ext ho43
      replace hE := hE.step ho43 (.inl (Nat.le_refl _))
      replace hb2 := hb2.ext ho43
      refine st (y_pickT rfl rfl (v := .bool _) rfl) ?_
      refine st (mvB rfl) ?_
      refine scg rfl rfl rfl cl19 (law17_small_ok _) rfl ?_
      rintro v52 w48 ⟨A1, rfl, hN1, ho49⟩
      have hz53 := ho49.size
      replace hN := hN.ext ho49
      replace hE := hE.step ho49 (.inl (Nat.le_refl _))
      replace hb2 := hb2.ext ho49
      refine stg rfl rfl rfl (mvI rfl) ?_
      refine scg rfl rfl rfl cl22 (law17_agrees_ok sx A1 _ _ _ _ hN1) rfl ?_
      rintro v58 w54 ⟨rfl, ho55⟩
      have hz59 := ho55.size
      replace hN := hN.ext ho55
      replace hE := hE.step ho55 (.inl (Nat.le_refl _))
      replace hb2 := hb2.ext ho55
      replace hN1 := hN1.ext ho55
      refine st (y_pickT rfl rfl (v := .bool _) rfl) ?_
      refine st (asB rfl) ?_
      refine rg_end ?_
      refine n_then ?_
      refine wp_ret ?_
      refine ret1 (v := (.bool _)) Try.results5 rfl ?_
      exact ⟨rfl, hE⟩
    ·
      try simp only [decide_eq_true_eq, decide_eq_false_iff_not, Bool.not_eq_true', Bool.not_eq_false', Bool.and_eq_true, Bool.or_eq_true, Bool.or_eq_false_iff, Bool.cond_true_right, Bool.cond_false_right, Bool.cond_true_left, Bool.cond_false_left, ne_eq, Decidable.not_not, bne_iff_ne, beq_iff_eq, beq_eq_false_iff_ne, Bool.not_true, Bool.not_false] at hc0
      refine wp_skip ?_
      refine n_then ?_
      refine wp_seq ?_
      refine rg ?_
      refine sc cl15 (law17_awake_ok _) rfl ?_
      rintro v64 w60 ⟨rfl, ho61⟩
      have hz65 := ho61.size
      replace hN := hN.ext ho61
      replace hE := hE.step ho61 (.inl (Nat.le_refl _))
      replace hb2 := hb2.ext ho61
      refine st (mvB rfl) ?_
      refine stg rfl rfl rfl (y_lbN hb2 agg26 rfl) ?_
      refine stg rfl rfl rfl (mvI rfl) ?_
      refine scg rfl rfl rfl cl22 (law17_agrees_ok N A _ _ _ _ hN) rfl ?_
      rintro v70 w66 ⟨rfl, ho67⟩
      have hz71 := ho67.size
      replace hN := hN.ext ho67
      replace hE := hE.step ho67 (.inl (Nat.le_refl _))
      replace hb2 := hb2.ext ho67
      refine st (y_pickT rfl rfl (v := .bool _) rfl) ?_
      refine st (mvB rfl) ?_
      refine scg rfl rfl rfl cl19 (law17_small_ok _) rfl ?_
      rintro v76 w72 ⟨A1, rfl, hN1, ho73⟩
      have hz77 := ho73.size
      replace hN := hN.ext ho73
      replace hE := hE.step ho73 (.inl (Nat.le_refl _))
      replace hb2 := hb2.ext ho73
      refine stg rfl rfl rfl (mvI rfl) ?_
      refine scg rfl rfl rfl cl22 (law17_agrees_ok sx A1 _ _ _ _ hN1) rfl ?_
      rintro v82 w78 ⟨rfl, ho79⟩
      have hz83 := ho79.size
      replace hN := hN.ext ho79
      replace hE := hE.step ho79 (.inl (Nat.le_refl _))
      replace hb2 := hb2.ext ho79
      replace hN1 := hN1.ext ho79
      refine st (y_pickT rfl rfl (v := .bool _) rfl) ?_
      refine st (asB rfl) ?_
      refine rg_end ?_
      refine n_then ?_
      refine wp_ret ?_
      refine ret1 (v := (.bool _)) Try.results5 rfl ?_
      exact ⟨rfl, hE⟩

set_option maxRecDepth 100000 in
theorem law17_SearchGenerated_ok (a0 : Option Addr) (c0 : Nat) (l0 : List Int) (B : Int) (w : World) (hL0 : Ints 0 w.heap.size w a0 l0) (hl0 : (l0.length : Int) ≤ 9223372036854775807) : Cal Try.prog 6 [.slice a0 l0.length c0, .int .i64 B] w (fun v w' => v = .bool true ∧ Ext w w') := by
  have hpb := pick_rng B 400 (by omega)
  have hE : Out 0 0 w w := Out.refl _ _ w
  refine enter Try.func6 rfl Try.ntmps6 rfl ?_
  refine wp_seq ?_
  refine rg ?_
  refine st (asB rfl) ?_
  refine rg_end ?_
  refine n_then ?_
  refine wp_seq ?_
  refine rg ?_
  refine sc cl15 (law17_awake_ok _) rfl ?_
  rintro v5 w1 ⟨rfl, ho2⟩
  have hz6 := ho2.size
  replace hL0 := hL0.ext ho2
  replace hE := hE.step ho2 (.inl (Nat.le_refl _))
  refine st (mvB rfl) ?_
  refine stg rfl rfl rfl (mvS rfl) ?_
  refine scg rfl rfl rfl cl12 (keep_Network_ok _ _ _ _ _ _ hL0 hl0) rfl ?_
  rintro v11 w7 ⟨N1, A1, rfl, hsm1, hev1, hac1, hdis1, ho8⟩
  have hN1 : NetIn _ _ _ N1 A1 := ⟨Ow.sl hev1, Ow.sl hac1⟩
  clear hev1 hac1
  have hz12 := ho8.size
  replace hL0 := hL0.ext ho8
  replace hE := hE.step ho8 (.inl (Nat.le_refl _))
  refine scg rfl rfl rfl cl22 (law17_agrees_ok N1 A1 _ _ _ _ hN1) rfl ?_
  rintro v17 w13 ⟨rfl, ho14⟩
  have hz18 := ho14.size
  replace hL0 := hL0.ext ho14
  replace hE := hE.step ho14 (.inl (Nat.le_refl _))
  replace hN1 := hN1.ext ho14
  refine st (y_pickT rfl rfl (v := .bool _) rfl) ?_
  refine st (mvB rfl) ?_
  refine stg rfl rfl rfl (mvS rfl) ?_
  refine scg rfl rfl rfl cl23 (keep_Slack_ok _ _ _ _ _ _ hL0 hl0) rfl ?_
  rintro v23 w19 ⟨N2, A2, rfl, hsm2, hN2, ho20⟩
  have hz24 := ho20.size
  replace hL0 := hL0.ext ho20
  replace hE := hE.step ho20 (.inl (Nat.le_refl _))
  replace hN1 := hN1.ext ho20
  refine scg rfl rfl rfl cl22 (law17_agrees_ok N2 A2 _ _ _ _ hN2) rfl ?_
  rintro v29 w25 ⟨rfl, ho26⟩
  have hz30 := ho26.size
  replace hL0 := hL0.ext ho26
  replace hE := hE.step ho26 (.inl (Nat.le_refl _))
  replace hN1 := hN1.ext ho26
  replace hN2 := hN2.ext ho26
  refine st (y_pickT rfl rfl (v := .bool _) rfl) ?_
  refine st (mvB rfl) ?_
  refine stg rfl rfl rfl (mvS rfl) ?_
  refine scg rfl rfl rfl cl23 (keep_Slack_ok _ _ _ _ _ _ hL0 hl0) rfl ?_
  rintro v35 w31 ⟨N3, A3, rfl, hsm3, hN3, ho32⟩
  have hz36 := ho32.size
  replace hL0 := hL0.ext ho32
  replace hE := hE.step ho32 (.inl (Nat.le_refl _))
  replace hN1 := hN1.ext ho32
  replace hN2 := hN2.ext ho32
  refine stg rfl rfl rfl (mvI rfl) ?_
  refine scg rfl rfl rfl cl21 (keep_Pick_ok _ _ _ (by omega) (by omega)) rfl ?_
  rintro v41 w37 ⟨rfl, ho38⟩
  have hz42 := ho38.size
  replace hL0 := hL0.ext ho38
  replace hE := hE.step ho38 (.inl (Nat.le_refl _))
  replace hN1 := hN1.ext ho38
  replace hN2 := hN2.ext ho38
  replace hN3 := hN3.ext ho38
  refine stg rfl rfl rfl (y_add rfl rfl (by omega)) ?_
  refine scg rfl rfl rfl cl22 (law17_agrees_ok N3 A3 _ _ _ _ hN3) rfl ?_
  rintro v47 w43 ⟨rfl, ho44⟩
  have hz48 := ho44.size
  replace hL0 := hL0.ext ho44
  replace hE := hE.step ho44 (.inl (Nat.le_refl _))
  replace hN1 := hN1.ext ho44
  replace hN2 := hN2.ext ho44
  replace hN3 := hN3.ext ho44
  refine st (y_pickT rfl rfl (v := .bool _) rfl) ?_
  refine st (asB rfl) ?_
  refine rg_end ?_
  refine n_then ?_
  refine wp_ret ?_
  refine ret1 (v := (.bool _)) Try.results6 rfl ?_
  exact ⟨rfl, hE⟩
end Go.Proofs.Ytdbiapbdmmkfjaa
