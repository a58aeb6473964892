/-
  Walks of the functions, printed by a program out of the code and the loops' relations.
-/
import Derived.Test.YtciljdhihnnfiaaWkG
import Derived.Test.YtciljdhihnnfiaaProg
import Derived.KernelRfl
import Derived.Test.YtciljdhihnnfiaaC3
namespace Go.Proofs.Ytciljdhihnnfiaa
open Go.Wk Go.RowKit
set_option linter.unusedVariables false
set_option linter.unusedSimpArgs false
theorem bld35_0_1_2 (a0 : Int) (a1 : Int) (a2 : Int) (w : World) : (Instr.build 35 [(0, (.int .i64 a0)), (1, (.int .i64 a1)), (2, (.int .i64 a2))].toArray).run Try.prog w = .ok (.agg [(.int .i64 a0), (.int .i64 a1), (.int .i64 a2)].toArray) w := by kernel_rfl
theorem bld45_0 (a0 : Int) (w : World) : (Instr.build 45 [(0, (.int .i64 a0))].toArray).run Try.prog w = .ok (.agg [(.int .i64 a0), .int .i64 0].toArray) w := by kernel_rfl
theorem bld45_0_1 (a0 : Int) (a1 : Int) (w : World) : (Instr.build 45 [(0, (.int .i64 a0)), (1, (.int .i64 a1))].toArray).run Try.prog w = .ok (.agg [(.int .i64 a0), (.int .i64 a1)].toArray) w := by kernel_rfl
theorem bsl46_1 (a0_0 : Int) (a0_1 : Int) (w : World) : (Instr.buildSlice 46 1 [(0, (.agg #[(.int .i64 a0_0), (.int .i64 a0_1)]))].toArray).run Try.prog w = .ok (.slice (some ⟨w.heap.size, 0, none⟩) 1 1) (w.alloc (.cells [(.int .i64 a0_0), (.int .i64 a0_1)].toArray 45)) := by kernel_rfl
theorem cl10 : Callable Try.prog 10 := ⟨Try.call10⟩
theorem cl14 : Callable Try.prog 14 := ⟨Try.call14⟩
theorem cl17 : Callable Try.prog 17 := ⟨Try.call17⟩
theorem cl18 : Callable Try.prog 18 := ⟨Try.call18⟩
theorem cl22 : Callable Try.prog 22 := ⟨Try.call22⟩
theorem cl23 : Callable Try.prog 23 := ⟨Try.call23⟩
theorem cl24 : Callable Try.prog 24 := ⟨Try.call24⟩
theorem cl25 : Callable Try.prog 25 := ⟨Try.call25⟩
theorem ptr24 : Try.prog.underlying 24 = some (.pointer (Try.prog.pointee 24)) := by kernel_rfl

theorem nilFk (w : World) : Sl encFk 3 0 0 w none ([] : List Fk) := ⟨fun h => absurd rfl h, fun i x hx => by simp at hx⟩
def awF : List Fk := [⟨0, 1, 1⟩]
def aw0 : IS := initS (2 : Int).toNat awF
def aw1 : IS := grantS aw0 0 [⟨0, -1⟩]
def aw2 : IS := grantS aw1 1 [⟨1, 0⟩]
def aw3 : IS := grantS aw2 1 [⟨1, 1⟩]
def aw4 : IS := repS aw3 0 2
def aw5 : IS := freeS aw4 0 0
theorem aw_new : newE 2 awF = 0 := by kernel_rfl
theorem aw_facts : grantE aw0 0 [⟨0, -1⟩] = 0 ∧ position aw1 1 = 1 ∧ grantE aw1 1 [⟨1, 0⟩] = 13 ∧ grantE aw2 1 [⟨1, 1⟩] = 0 ∧ freeE aw4 0 0 = 16 ∧ holder aw5 0 = 0 ∧ holder aw5 1 = 1 := by
  refine ⟨?_, ?_, ?_, ?_, ?_, ?_, ?_⟩ <;> kernel_rfl
def cl0 : IS := initS (3 : Int).toNat []
def cl1 (k t : Int) : IS := grantS cl0 t [⟨k, -1⟩]
def cl2 (k t : Int) : IS := cloS (cl1 k t) k true
def cl3 (k t : Int) : IS := cloS (cl2 k t) ((k + 1).tmod 3) true
def cl4 (k t : Int) : IS := grantS (cl3 k t) t [⟨k, -1⟩]
def cl5 (k t : Int) : IS := grantS (cl4 k t) t [⟨(k + 1).tmod 3, -1⟩]
def cl6 (k t : Int) : IS := cloS (cl5 k t) ((k + 1).tmod 3) false
def cl7 (k t s : Int) : IS := repS (cl6 k t) ((k + 1).tmod 3) (1 + s)
def cl8 (k t s : Int) : IS := grantS (cl7 k t s) t [⟨(k + 1).tmod 3, -1⟩]
def clB (k t s : Int) : Bool := decide (grantE cl0 t [⟨k, -1⟩] = 0) && decide (grantE (cl3 k t) t [⟨k, -1⟩] = 0) && decide (grantE (cl4 k t) t [⟨(k + 1).tmod 3, -1⟩] = 18) && decide (grantE (cl7 k t s) t [⟨(k + 1).tmod 3, -1⟩] = 16) && decide (holder (cl8 k t s) k = t) && decide (holder (cl8 k t s) ((k + 1).tmod 3) = -1)
theorem cl_all : ((List.range 3).all fun (k : Nat) => (List.range 10).all fun (t : Nat) => (List.range 2).all fun (s : Nat) => clB k t s) = true := by kernel_rfl
theorem cl_facts {k t s : Int} (hk : 0 ≤ k ∧ k < 3) (ht : 0 ≤ t ∧ t < 10) (hs : 0 ≤ s ∧ s < 2) : grantE cl0 t [⟨k, -1⟩] = 0 ∧ grantE (cl3 k t) t [⟨k, -1⟩] = 0 ∧ grantE (cl4 k t) t [⟨(k + 1).tmod 3, -1⟩] = 18 ∧ grantE (cl7 k t s) t [⟨(k + 1).tmod 3, -1⟩] = 16 ∧ holder (cl8 k t s) k = t ∧ holder (cl8 k t s) ((k + 1).tmod 3) = -1 := by
  have h := List.all_eq_true.1 (List.all_eq_true.1 (List.all_eq_true.1 cl_all k.toNat (List.mem_range.2 (by omega))) t.toNat (List.mem_range.2 (by omega))) s.toNat (List.mem_range.2 (by omega))
  rw [Int.toNat_of_nonneg hk.1, Int.toNat_of_nonneg ht.1, Int.toNat_of_nonneg hs.1] at h
  simp only [clB, Bool.and_eq_true, decide_eq_true_eq] at h
  exact ⟨h.1.1.1.1.1, h.1.1.1.1.2, h.1.1.1.2, h.1.1.2, h.1.2, h.2⟩

set_option maxHeartbeats 1000000 in
set_option maxRecDepth 100000 in
theorem law32_awake_ok (w : World) : Cal Try.prog 14 [] w (fun v w' => v = .bool true ∧ Ext w w') := by
  obtain ⟨q1, q2, q3, q4, q5, q6, q7⟩ := aw_facts
  have hE : Out 0 0 w w := Out.refl _ _ w
  refine enter Try.func14 rfl Try.ntmps14 rfl ?_
  refine wp_seq ?_
  refine rg ?_
  refine st (asB rfl) ?_
  refine rg_end ?_
  refine n_then ?_
  refine wp_seq ?_
  refine rg ?_
  refine st (y_build (bld35_0_1_2 _ _ _ _) rfl) ?_
  refine sd (d_bs (bsl22_1 _ _ _ _) rfl ?_)
  intro bf w1 hbbf hs3 ho2 hbf
  have hF : Sl encFk 3 bf (bf + 1) w1 (some ⟨bf, 0, none⟩) awF := Blk.sl (l := awF) hbf (fun _ => rfl) (Nat.le_refl _) (Nat.lt_succ_self _)
  have hz4 := ho2.size
  replace hE := hE.step ho2 (.inl (Nat.le_refl _))
  refine sc cl10 (ilk_New_ok 2 awF _ _ _ _ _ hF (by decide) (by decide)) rfl ?_
  rintro v9 w5 ⟨p, e, rfl, he, hp0, hp1, ho6⟩
  obtain rfl : e = 0 := he.trans aw_new
  obtain ⟨bx, rfl, hX⟩ := hp1 rfl
  have hS0 : IsOk aw0 := initS_ok aw_new
  have hz10 := ho6.size
  replace hE := hE.step ho6 (.inl (Nat.le_refl _))
  replace hF := hF.ext ho6
  refine st (mvT rfl) ?_
  refine st (y_ext rfl rfl) ?_
  refine st (y_ext rfl rfl) ?_
  refine st (asP rfl) ?_
  refine st (asI rfl) ?_
  refine rg_end ?_
  refine n_then ?_
  refine wp_seq ?_
  refine wp_seq ?_
  refine rg ?_
  refine st (mvI rfl) ?_
  refine st (y_neq rfl rfl) ?_
  refine st (mvB rfl) ?_
  refine stg rfl rfl (by decide) (mvP rfl) ?_
  refine stg rfl rfl (by decide) (y_nilP ptr24 rfl rfl) ?_
  refine st (y_pickF rfl (by decide) (v := .bool _) rfl) ?_
  refine rg_end ?_
  refine n_then ?_
  refine cnd rfl (fun hc0 => absurd ((show (some (⟨bx, 0, none⟩ : Addr)).isNone = false from rfl).symm.trans hc0) (by decide)) (fun hc0 => ?_)
  refine wp_skip ?_
  refine n_then ?_
  refine wp_seq ?_
  refine rg ?_
  refine st (mvP rfl) ?_
  refine st (y_build (bld45_0_1 _ _ _) rfl) ?_
  refine sd (d_bs (bsl46_1 _ _ _) rfl ?_)
  intro b21 w11 hbb21 hs13 ho12 hb21
  have hL1 : Sl encLk 2 b21 (b21 + 1) w11 (some ⟨b21, 0, none⟩) [(⟨0, -1⟩ : Lk)] := Blk.sl (l := [(⟨0, -1⟩ : Lk)]) hb21 (fun _ => rfl) (Nat.le_refl _) (Nat.lt_succ_self _)
  have hz14 := ho12.size
  replace hE := hE.step ho12 (.inl (Nat.le_refl _))
  replace hF := hF.ext ho12
  replace hX := hX.ext ho12
  refine sc cl22 (ilk_Grant_ok aw0 _ _ _ 0 [⟨0, -1⟩] _ _ _ _ _ hX hS0 hL1 (by simp) (by omega) (by omega)) rfl ?_
  rintro v19 w15 ⟨rfl, hX, ho16⟩
  have hS1 : IsOk aw1 := grantS_ok hS0 _ _
  have hz20 := ho16.size
  replace hE := hE.step ho16 (by first | omega | (simp only [blk_some, hi1_some] at *; omega))
  replace hF := hF.out ho16 (by first | omega | (simp only [blk_some, hi1_some] at *; omega))
  replace hL1 := hL1.out ho16 (by first | omega | (simp only [blk_some, hi1_some] at *; omega))
  refine st (asI rfl) ?_
  refine rg_end ?_
  refine n_then ?_
  refine wp_seq ?_
  refine rg ?_
  refine st (mvP rfl) ?_
  refine sc cl17 (ilk_Position_ok aw1 _ _ _ 1 _ hX hS1) rfl ?_
  rintro v25 w21 ⟨rfl, ho22⟩
  have hz26 := ho22.size
  replace hE := hE.step ho22 (.inl (Nat.le_refl _))
  replace hF := hF.ext ho22
  replace hX := hX.ext ho22
  replace hL1 := hL1.ext ho22
  refine st (asI rfl) ?_
  refine rg_end ?_
  refine n_then ?_
  refine wp_seq ?_
  refine rg ?_
  refine st (mvP rfl) ?_
  refine st (y_build (bld45_0 _ _) rfl) ?_
  refine sd (d_bs (bsl46_1 _ _ _) rfl ?_)
  intro b27 w27 hbb27 hs29 ho28 hb27
  have hL2 : Sl encLk 2 b27 (b27 + 1) w27 (some ⟨b27, 0, none⟩) [(⟨1, 0⟩ : Lk)] := Blk.sl (l := [(⟨1, 0⟩ : Lk)]) hb27 (fun _ => rfl) (Nat.le_refl _) (Nat.lt_succ_self _)
  have hz30 := ho28.size
  replace hE := hE.step ho28 (.inl (Nat.le_refl _))
  replace hF := hF.ext ho28
  replace hX := hX.ext ho28
  replace hL1 := hL1.ext ho28
  refine sc cl22 (ilk_Grant_ok aw1 _ _ _ 1 [⟨1, 0⟩] _ _ _ _ _ hX hS1 hL2 (by simp) (by omega) (by omega)) rfl ?_
  rintro v35 w31 ⟨rfl, hX, ho32⟩
  have hS2 : IsOk aw2 := grantS_ok hS1 _ _
  have hz36 := ho32.size
  replace hE := hE.step ho32 (by first | omega | (simp only [blk_some, hi1_some] at *; omega))
  replace hF := hF.out ho32 (by first | omega | (simp only [blk_some, hi1_some] at *; omega))
  replace hL1 := hL1.out ho32 (by first | omega | (simp only [blk_some, hi1_some] at *; omega))
  replace hL2 := hL2.out ho32 (by first | omega | (simp only [blk_some, hi1_some] at *; omega))
  refine st (asI rfl) ?_
  refine rg_end ?_
  refine n_then ?_
  refine wp_seq ?_
  refine rg ?_
  refine st (mvP rfl) ?_
  refine st (y_build (bld45_0_1 _ _ _) rfl) ?_
  refine sd (d_bs (bsl46_1 _ _ _) rfl ?_)
  intro b31 w37 hbb31 hs39 ho38 hb31
  have hL3 : Sl encLk 2 b31 (b31 + 1) w37 (some ⟨b31, 0, none⟩) [(⟨1, 1⟩ : Lk)] := Blk.sl (l := [(⟨1, 1⟩ : Lk)]) hb31 (fun _ => rfl) (Nat.le_refl _) (Nat.lt_succ_self _)
  have hz40 := ho38.size
  replace hE := hE.step ho38 (.inl (Nat.le_refl _))
  replace hF := hF.ext ho38
  replace hX := hX.ext ho38
  replace hL1 := hL1.ext ho38
  replace hL2 := hL2.ext ho38
  refine sc cl22 (ilk_Grant_ok aw2 _ _ _ 1 [⟨1, 1⟩] _ _ _ _ _ hX hS2 hL3 (by simp) (by omega) (by omega)) rfl ?_
  rintro v45 w41 ⟨rfl, hX, ho42⟩
  have hS3 : IsOk aw3 := grantS_ok hS2 _ _
  have hz46 := ho42.size
  replace hE := hE.step ho42 (by first | omega | (simp only [blk_some, hi1_some] at *; omega))
  replace hF := hF.out ho42 (by first | omega | (simp only [blk_some, hi1_some] at *; omega))
  replace hL1 := hL1.out ho42 (by first | omega | (simp only [blk_some, hi1_some] at *; omega))
  replace hL2 := hL2.out ho42 (by first | omega | (simp only [blk_some, hi1_some] at *; omega))
  replace hL3 := hL3.out ho42 (by first | omega | (simp only [blk_some, hi1_some] at *; omega))
  refine st (asI rfl) ?_
  refine rg_end ?_
  refine n_then ?_
  refine wp_seq ?_
  refine rg ?_
  refine st (mvP rfl) ?_
  refine sc cl24 (ilk_Report_ok aw3 _ _ _ 0 2 _ hX hS3) rfl ?_
  rintro v51 w47 ⟨rfl, hX, ho48⟩
  have hS4 : IsOk aw4 := repS_ok hS3 _ _
  have hz52 := ho48.size
  replace hE := hE.step ho48 (by first | omega | (simp only [blk_some, hi1_some] at *; omega))
  replace hF := hF.out ho48 (by first | omega | (simp only [blk_some, hi1_some] at *; omega))
  replace hL1 := hL1.out ho48 (by first | omega | (simp only [blk_some, hi1_some] at *; omega))
  replace hL2 := hL2.out ho48 (by first | omega | (simp only [blk_some, hi1_some] at *; omega))
  replace hL3 := hL3.out ho48 (by first | omega | (simp only [blk_some, hi1_some] at *; omega))
  refine rg_end ?_
  refine n_then ?_
  refine wp_seq ?_
  refine rg ?_
  refine st (mvI rfl) ?_
  refine st (y_eql rfl rfl) ?_
  refine st (mvB rfl) ?_
  refine stg rfl rfl (decide_eq_true q1) (mvI rfl) ?_
  refine stg rfl rfl (decide_eq_true q1) (y_eql rfl rfl) ?_
  refine st (y_pickT rfl (decide_eq_true q1) (v := .bool _) rfl) ?_
  refine st (mvB rfl) ?_
  refine stg rfl rfl (decide_eq_true q2) (mvI rfl) ?_
  refine stg rfl rfl (decide_eq_true q2) (y_eql rfl rfl) ?_
  refine st (y_pickT rfl (decide_eq_true q2) (v := .bool _) rfl) ?_
  refine st (mvB rfl) ?_
  refine stg rfl rfl (decide_eq_true q3) (mvI rfl) ?_
  refine stg rfl rfl (decide_eq_true q3) (y_eql rfl rfl) ?_
  refine st (y_pickT rfl (decide_eq_true q3) (v := .bool _) rfl) ?_
  refine st (mvB rfl) ?_
  refine stg rfl rfl (decide_eq_true q4) (mvP rfl) ?_
  refine scg rfl rfl (decide_eq_true q4) cl25 (ilk_Free_ok aw4 _ _ _ 0 0 _ hX hS4) rfl ?_
  rintro v57 w53 ⟨rfl, hX, ho54⟩
  have hS5 : IsOk aw5 := freeS_ok hS4 _ _
  have hz58 := ho54.size
  replace hE := hE.step ho54 (by first | omega | (simp only [blk_some, hi1_some] at *; omega))
  replace hF := hF.out ho54 (by first | omega | (simp only [blk_some, hi1_some] at *; omega))
  replace hL1 := hL1.out ho54 (by first | omega | (simp only [blk_some, hi1_some] at *; omega))
  replace hL2 := hL2.out ho54 (by first | omega | (simp only [blk_some, hi1_some] at *; omega))
  replace hL3 := hL3.out ho54 (by first | omega | (simp only [blk_some, hi1_some] at *; omega))
  refine stg rfl rfl (decide_eq_true q4) (y_eql rfl rfl) ?_
  refine st (y_pickT rfl (decide_eq_true q4) (v := .bool _) rfl) ?_
  refine st (mvB rfl) ?_
  refine stg rfl rfl (decide_eq_true q5) (mvP rfl) ?_
  refine scg rfl rfl (decide_eq_true q5) cl18 (ilk_Holder_ok aw5 _ _ _ 0 _ hX hS5) rfl ?_
  rintro v63 w59 ⟨rfl, ho60⟩
  have hz64 := ho60.size
  replace hE := hE.step ho60 (.inl (Nat.le_refl _))
  replace hF := hF.ext ho60
  replace hX := hX.ext ho60
  replace hL1 := hL1.ext ho60
  replace hL2 := hL2.ext ho60
  replace hL3 := hL3.ext ho60
  refine stg rfl rfl (decide_eq_true q5) (y_eql rfl rfl) ?_
  refine st (y_pickT rfl (decide_eq_true q5) (v := .bool _) rfl) ?_
  refine st (mvB rfl) ?_
  refine stg rfl rfl (decide_eq_true q6) (mvP rfl) ?_
  refine scg rfl rfl (decide_eq_true q6) cl18 (ilk_Holder_ok aw5 _ _ _ 1 _ hX hS5) rfl ?_
  rintro v69 w65 ⟨rfl, ho66⟩
  have hz70 := ho66.size
  replace hE := hE.step ho66 (.inl (Nat.le_refl _))
  replace hF := hF.ext ho66
  replace hX := hX.ext ho66
  replace hL1 := hL1.ext ho66
  replace hL2 := hL2.ext ho66
  replace hL3 := hL3.ext ho66
  refine stg rfl rfl (decide_eq_true q6) (y_eql rfl rfl) ?_
  refine st (y_pickT rfl (decide_eq_true q6) (v := .bool _) rfl) ?_
  refine st (asB rfl) ?_
  refine rg_end ?_
  refine n_then ?_
  refine wp_ret ?_
  refine ret1 (v := (.bool _)) Try.results14 rfl ?_
  exact ⟨by rw [q7]; rfl, hE⟩

set_option maxHeartbeats 1000000 in
set_option maxRecDepth 100000 in
theorem law32_InterlockClosed_ok (r state a : Int) (w : World) : Cal Try.prog 5 [.int .i64 r, .int .i64 state, .int .i64 a] w (fun v w' => v = .bool true ∧ Ext w w') := by
  have hk := pick_rng r 3 (by omega)
  have ht := pick_rng a 10 (by omega)
  have hs := pick_rng state 2 (by omega)
  obtain ⟨q1, q2, q3, q4, q5, q6⟩ := cl_facts hk ht hs
  have hE : Out 0 0 w w := Out.refl _ _ w
  refine enter Try.func5 rfl Try.ntmps5 rfl ?_
  refine wp_seq ?_
  refine rg ?_
  refine st (asB rfl) ?_
  refine rg_end ?_
  refine n_then ?_
  refine wp_seq ?_
  refine rg ?_
  refine sc cl10 (ilk_New_ok 3 [] _ _ _ _ _ (nilFk _) (by decide) (by decide)) rfl ?_
  rintro v5 w1 ⟨p, e, rfl, he, hp0, hp1, ho2⟩
  obtain rfl : e = 0 := he.trans (by kernel_rfl)
  obtain ⟨bx, rfl, hX⟩ := hp1 rfl
  have hS0 : IsOk cl0 := initS_ok (n := 3) (fl := []) (by kernel_rfl)
  have hz6 := ho2.size
  replace hE := hE.step ho2 (.inl (Nat.le_refl _))
  refine st (mvT rfl) ?_
  refine st (y_ext rfl rfl) ?_
  refine st (y_ext rfl rfl) ?_
  refine st (asP rfl) ?_
  refine st (asI rfl) ?_
  refine rg_end ?_
  refine n_then ?_
  refine wp_seq ?_
  refine wp_seq ?_
  refine rg ?_
  refine st (mvI rfl) ?_
  refine st (y_neq rfl rfl) ?_
  refine st (mvB rfl) ?_
  refine stg rfl rfl (by decide) (mvP rfl) ?_
  refine stg rfl rfl (by decide) (y_nilP ptr24 rfl rfl) ?_
  refine st (y_pickF rfl (by decide) (v := .bool _) rfl) ?_
  refine rg_end ?_
  refine n_then ?_
  refine cnd rfl (fun hc0 => absurd ((show (some (⟨bx, 0, none⟩ : Addr)).isNone = false from rfl).symm.trans hc0) (by decide)) (fun hc0 => ?_)
  refine wp_skip ?_
  refine n_then ?_
  refine wp_seq ?_
  refine rg ?_
  refine st (mvI rfl) ?_
  refine sc cl21 (keep_Pick_ok _ _ _ (by omega) (by omega)) rfl ?_
  rintro v11 w7 ⟨rfl, ho8⟩
  have hz12 := ho8.size
  replace hE := hE.step ho8 (.inl (Nat.le_refl _))
  replace hX := hX.ext ho8
  refine st (mvI rfl) ?_
  refine sc cl21 (keep_Pick_ok _ _ _ (by omega) (by omega)) rfl ?_
  rintro v17 w13 ⟨rfl, ho14⟩
  have hz18 := ho14.size
  replace hE := hE.step ho14 (.inl (Nat.le_refl _))
  replace hX := hX.ext ho14
  refine st (asI rfl) ?_
  refine st (asI rfl) ?_
  refine rg_end ?_
  refine n_then ?_
  refine wp_seq ?_
  refine rg ?_
  refine st (mvI rfl) ?_
  refine st (y_build (bld45_0_1 _ _ _) rfl) ?_
  refine sd (d_bs (bsl46_1 _ _ _) rfl ?_)
  intro b29 w19 hbb29 hs21 ho20 hb29
  have hO : Sl encLk 2 b29 (b29 + 1) w19 (some ⟨b29, 0, none⟩) [(⟨(pick r 3), -1⟩ : Lk)] := Blk.sl (l := [(⟨(pick r 3), -1⟩ : Lk)]) hb29 (fun _ => rfl) (Nat.le_refl _) (Nat.lt_succ_self _)
  have hz22 := ho20.size
  replace hE := hE.step ho20 (.inl (Nat.le_refl _))
  replace hX := hX.ext ho20
  refine st (asS rfl) ?_
  refine rg_end ?_
  refine n_then ?_
  refine wp_seq ?_
  refine rg ?_
  refine st (mvI rfl) ?_
  refine st (y_add rfl rfl (by omega)) ?_
  refine st (y_rem rfl rfl (by omega)) ?_
  refine st (y_build (bld45_0_1 _ _ _) rfl) ?_
  refine sd (d_bs (bsl46_1 _ _ _) rfl ?_)
  intro b34 w23 hbb34 hs25 ho24 hb34
  have hT : Sl encLk 2 b34 (b34 + 1) w23 (some ⟨b34, 0, none⟩) [(⟨((pick r 3 + 1).tmod 3), -1⟩ : Lk)] := Blk.sl (l := [(⟨((pick r 3 + 1).tmod 3), -1⟩ : Lk)]) hb34 (fun _ => rfl) (Nat.le_refl _) (Nat.lt_succ_self _)
  have hz26 := ho24.size
  replace hE := hE.step ho24 (.inl (Nat.le_refl _))
  replace hX := hX.ext ho24
  replace hO := hO.ext ho24
  refine st (asS rfl) ?_
  refine rg_end ?_
  refine n_then ?_
  refine wp_seq ?_
  refine wp_seq ?_
  refine rg ?_
  refine st (mvP rfl) ?_
  refine st (mvI rfl) ?_
  refine st (mvS rfl) ?_
  refine sc cl22 (ilk_Grant_ok cl0 _ _ _ (pick a 10) [⟨(pick r 3), -1⟩] _ _ _ _ _ hX hS0 hO (by simp) (by omega) (by omega)) rfl ?_
  rintro v31 w27 ⟨rfl, hX, ho28⟩
  have hS1 : IsOk (cl1 (pick r 3) (pick a 10)) := grantS_ok hS0 _ _
  have hz32 := ho28.size
  replace hE := hE.step ho28 (by first | omega | (simp only [blk_some, hi1_some] at *; omega))
  replace hO := hO.out ho28 (by first | omega | (simp only [blk_some, hi1_some] at *; omega))
  replace hT := hT.out ho28 (by first | omega | (simp only [blk_some, hi1_some] at *; omega))
  refine st (y_neq rfl rfl) ?_
  refine rg_end ?_
  refine n_then ?_
  refine cnd rfl (fun hc1 => absurd ((decide_eq_false (not_not_intro q1)).symm.trans hc1) (by decide)) (fun hc1 => ?_)
  refine wp_skip ?_
  refine n_then ?_
  refine wp_seq ?_
  refine rg ?_
  refine st (mvP rfl) ?_
  refine st (mvI rfl) ?_
  refine sc cl23 (ilk_Close_ok (cl1 (pick r 3) (pick a 10)) _ _ _ (pick r 3) true _ hX hS1) rfl ?_
  rintro v37 w33 ⟨rfl, hX, ho34⟩
  have hS2 : IsOk (cl2 (pick r 3) (pick a 10)) := cloS_ok hS1 _ _
  have hz38 := ho34.size
  replace hE := hE.step ho34 (by first | omega | (simp only [blk_some, hi1_some] at *; omega))
  replace hO := hO.out ho34 (by first | omega | (simp only [blk_some, hi1_some] at *; omega))
  replace hT := hT.out ho34 (by first | omega | (simp only [blk_some, hi1_some] at *; omega))
  refine rg_end ?_
  refine n_then ?_
  refine wp_seq ?_
  refine rg ?_
  refine st (mvP rfl) ?_
  refine st (mvI rfl) ?_
  refine st (y_add rfl rfl (by omega)) ?_
  refine st (y_rem rfl rfl (by omega)) ?_
  refine sc cl23 (ilk_Close_ok (cl2 (pick r 3) (pick a 10)) _ _ _ ((pick r 3 + 1).tmod 3) true _ hX hS2) rfl ?_
  rintro v43 w39 ⟨rfl, hX, ho40⟩
  have hS3 : IsOk (cl3 (pick r 3) (pick a 10)) := cloS_ok hS2 _ _
  have hz44 := ho40.size
  replace hE := hE.step ho40 (by first | omega | (simp only [blk_some, hi1_some] at *; omega))
  replace hO := hO.out ho40 (by first | omega | (simp only [blk_some, hi1_some] at *; omega))
  replace hT := hT.out ho40 (by first | omega | (simp only [blk_some, hi1_some] at *; omega))
  refine rg_end ?_
  refine n_then ?_
  refine wp_seq ?_
  refine wp_seq ?_
  refine rg ?_
  refine st (mvP rfl) ?_
  refine st (mvI rfl) ?_
  refine st (mvS rfl) ?_
  refine sc cl22 (ilk_Grant_ok (cl3 (pick r 3) (pick a 10)) _ _ _ (pick a 10) [⟨(pick r 3), -1⟩] _ _ _ _ _ hX hS3 hO (by simp) (by omega) (by omega)) rfl ?_
  rintro v49 w45 ⟨rfl, hX, ho46⟩
  have hS4 : IsOk (cl4 (pick r 3) (pick a 10)) := grantS_ok hS3 _ _
  have hz50 := ho46.size
  replace hE := hE.step ho46 (by first | omega | (simp only [blk_some, hi1_some] at *; omega))
  replace hO := hO.out ho46 (by first | omega | (simp only [blk_some, hi1_some] at *; omega))
  replace hT := hT.out ho46 (by first | omega | (simp only [blk_some, hi1_some] at *; omega))
  refine st (y_neq rfl rfl) ?_
  refine st (mvB rfl) ?_
  refine stg rfl rfl (decide_eq_false (not_not_intro q2)) (mvP rfl) ?_
  refine stg rfl rfl (decide_eq_false (not_not_intro q2)) (mvI rfl) ?_
  refine stg rfl rfl (decide_eq_false (not_not_intro q2)) (mvS rfl) ?_
  refine scg rfl rfl (decide_eq_false (not_not_intro q2)) cl22 (ilk_Grant_ok (cl4 (pick r 3) (pick a 10)) _ _ _ (pick a 10) [⟨((pick r 3 + 1).tmod 3), -1⟩] _ _ _ _ _ hX hS4 hT (by simp) (by omega) (by omega)) rfl ?_
  rintro v55 w51 ⟨rfl, hX, ho52⟩
  have hS5 : IsOk (cl5 (pick r 3) (pick a 10)) := grantS_ok hS4 _ _
  have hz56 := ho52.size
  replace hE := hE.step ho52 (by first | omega | (simp only [blk_some, hi1_some] at *; omega))
  replace hO := hO.out ho52 (by first | omega | (simp only [blk_some, hi1_some] at *; omega))
  replace hT := hT.out ho52 (by first | omega | (simp only [blk_some, hi1_some] at *; omega))
  refine stg rfl rfl (decide_eq_false (not_not_intro q2)) (y_neq rfl rfl) ?_
  refine st (y_pickF rfl (decide_eq_false (not_not_intro q2)) (v := .bool _) rfl) ?_
  refine rg_end ?_
  refine n_then ?_
  refine cnd rfl (fun hc2 => absurd ((decide_eq_false (not_not_intro q3)).symm.trans hc2) (by decide)) (fun hc2 => ?_)
  refine wp_skip ?_
  refine n_then ?_
  refine wp_seq ?_
  refine rg ?_
  refine st (mvP rfl) ?_
  refine st (mvI rfl) ?_
  refine st (y_add rfl rfl (by omega)) ?_
  refine st (y_rem rfl rfl (by omega)) ?_
  refine sc cl23 (ilk_Close_ok (cl5 (pick r 3) (pick a 10)) _ _ _ ((pick r 3 + 1).tmod 3) false _ hX hS5) rfl ?_
  rintro v61 w57 ⟨rfl, hX, ho58⟩
  have hS6 : IsOk (cl6 (pick r 3) (pick a 10)) := cloS_ok hS5 _ _
  have hz62 := ho58.size
  replace hE := hE.step ho58 (by first | omega | (simp only [blk_some, hi1_some] at *; omega))
  replace hO := hO.out ho58 (by first | omega | (simp only [blk_some, hi1_some] at *; omega))
  replace hT := hT.out ho58 (by first | omega | (simp only [blk_some, hi1_some] at *; omega))
  refine rg_end ?_
  refine n_then ?_
  refine wp_seq ?_
  refine rg ?_
  refine st (mvP rfl) ?_
  refine st (mvI rfl) ?_
  refine st (y_add rfl rfl (by omega)) ?_
  refine st (y_rem rfl rfl (by omega)) ?_
  refine st (mvI rfl) ?_
  refine sc cl21 (keep_Pick_ok _ _ _ (by omega) (by omega)) rfl ?_
  rintro v67 w63 ⟨rfl, ho64⟩
  have hz68 := ho64.size
  replace hE := hE.step ho64 (.inl (Nat.le_refl _))
  replace hX := hX.ext ho64
  replace hO := hO.ext ho64
  replace hT := hT.ext ho64
  refine st (y_add rfl rfl (by omega)) ?_
  refine sc cl24 (ilk_Report_ok (cl6 (pick r 3) (pick a 10)) _ _ _ ((pick r 3 + 1).tmod 3) (1 + (pick state 2)) _ hX hS6) rfl ?_
  rintro v73 w69 ⟨rfl, hX, ho70⟩
  have hS7 : IsOk (cl7 (pick r 3) (pick a 10) (pick state 2)) := repS_ok hS6 _ _
  have hz74 := ho70.size
  replace hE := hE.step ho70 (by first | omega | (simp only [blk_some, hi1_some] at *; omega))
  replace hO := hO.out ho70 (by first | omega | (simp only [blk_some, hi1_some] at *; omega))
  replace hT := hT.out ho70 (by first | omega | (simp only [blk_some, hi1_some] at *; omega))
  refine rg_end ?_
  refine n_then ?_
  refine wp_seq ?_
  refine rg ?_
  refine sc cl14 (law32_awake_ok _) rfl ?_
  rintro v79 w75 ⟨rfl, ho76⟩
  have hz80 := ho76.size
  replace hE := hE.step ho76 (.inl (Nat.le_refl _))
  replace hX := hX.ext ho76
  replace hO := hO.ext ho76
  replace hT := hT.ext ho76
  refine st (mvB rfl) ?_
  refine stg rfl rfl rfl (mvP rfl) ?_
  refine stg rfl rfl rfl (mvI rfl) ?_
  refine stg rfl rfl rfl (mvS rfl) ?_
  refine scg rfl rfl rfl cl22 (ilk_Grant_ok (cl7 (pick r 3) (pick a 10) (pick state 2)) _ _ _ (pick a 10) [⟨((pick r 3 + 1).tmod 3), -1⟩] _ _ _ _ _ hX hS7 hT (by simp) (by omega) (by omega)) rfl ?_
  rintro v85 w81 ⟨rfl, hX, ho82⟩
  have hS8 : IsOk (cl8 (pick r 3) (pick a 10) (pick state 2)) := grantS_ok hS7 _ _
  have hz86 := ho82.size
  replace hE := hE.step ho82 (by first | omega | (simp only [blk_some, hi1_some] at *; omega))
  replace hO := hO.out ho82 (by first | omega | (simp only [blk_some, hi1_some] at *; omega))
  replace hT := hT.out ho82 (by first | omega | (simp only [blk_some, hi1_some] at *; omega))
  refine stg rfl rfl rfl (y_eql rfl rfl) ?_
  refine st (y_pickT rfl rfl (v := .bool _) rfl) ?_
  refine st (mvB rfl) ?_
  refine stg rfl rfl (decide_eq_true q4) (mvP rfl) ?_
  refine stg rfl rfl (decide_eq_true q4) (mvI rfl) ?_
  refine scg rfl rfl (decide_eq_true q4) cl18 (ilk_Holder_ok (cl8 (pick r 3) (pick a 10) (pick state 2)) _ _ _ (pick r 3) _ hX hS8) rfl ?_
  rintro v91 w87 ⟨rfl, ho88⟩
  have hz92 := ho88.size
  replace hE := hE.step ho88 (.inl (Nat.le_refl _))
  replace hX := hX.ext ho88
  replace hO := hO.ext ho88
  replace hT := hT.ext ho88
  refine stg rfl rfl (decide_eq_true q4) (mvI rfl) ?_
  refine stg rfl rfl (decide_eq_true q4) (y_eql rfl rfl) ?_
  refine st (y_pickT rfl (decide_eq_true q4) (v := .bool _) rfl) ?_
  refine st (mvB rfl) ?_
  refine stg rfl rfl (decide_eq_true q5) (mvP rfl) ?_
  refine stg rfl rfl (decide_eq_true q5) (mvI rfl) ?_
  refine stg rfl rfl (decide_eq_true q5) (y_add rfl rfl (by omega)) ?_
  refine stg rfl rfl (decide_eq_true q5) (y_rem rfl rfl (by omega)) ?_
  refine scg rfl rfl (decide_eq_true q5) cl18 (ilk_Holder_ok (cl8 (pick r 3) (pick a 10) (pick state 2)) _ _ _ ((pick r 3 + 1).tmod 3) _ hX hS8) rfl ?_
  rintro v97 w93 ⟨rfl, ho94⟩
  have hz98 := ho94.size
  replace hE := hE.step ho94 (.inl (Nat.le_refl _))
  replace hX := hX.ext ho94
  replace hO := hO.ext ho94
  replace hT := hT.ext ho94
  refine stg rfl rfl (decide_eq_true q5) (y_eql rfl rfl) ?_
  refine st (y_pickT rfl (decide_eq_true q5) (v := .bool _) rfl) ?_
  refine st (asB rfl) ?_
  refine rg_end ?_
  refine n_then ?_
  refine wp_ret ?_
  refine ret1 (v := (.bool _)) Try.results5 rfl ?_
  exact ⟨by rw [q6]; rfl, hE⟩
end Go.Proofs.Ytciljdhihnnfiaa
