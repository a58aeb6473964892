/-
  Walks of the functions, printed by a program out of the code and the loops' relations.
-/
import Derived.Test.YtciljdhihnnfiaaWkG
import Derived.Test.YtciljdhihnnfiaaProg
import Derived.KernelRfl
import Derived.Test.YtciljdhihnnfiaaC9
namespace Go.Proofs.Ytciljdhihnnfiaa
open Go.Wk Go.RowKit
set_option linter.unusedVariables false
set_option linter.unusedSimpArgs false
theorem zerR39 : ZeroOf Try.prog 39 (.agg (List.replicate 6 (Value.int .i64 0)).toArray) := fun w => by kernel_rfl
theorem zerC39 : ((List.replicate 6 (Value.int .i64 0)).toArray).toList = (List.replicate 6 ((0 : Int))).flatMap encI := by kernel_rfl
theorem zerR40 : ZeroOf Try.prog 40 (.agg (List.replicate 6 (Value.bool false)).toArray) := fun w => by kernel_rfl
theorem zerC40 : ((List.replicate 6 (Value.bool false)).toArray).toList = (List.replicate 6 (false)).flatMap encB := by kernel_rfl

theorem new_nil {e : Int} {p : Option Addr} {X : Nat → Prop} (h1 : e ≠ 0 → p = none) (h2 : e = 0 → ∃ b, p = some ⟨b, 0, none⟩ ∧ X b) : (decide (e = 0) == !p.isNone) = true := by
  by_cases h : e = 0
  · obtain ⟨b, rfl, _⟩ := h2 h; simp [h]
  · rw [h1 h]; simp [h]
theorem arr_step {α : Type} [Inhabited α] {n k : Nat} {l : List α} {v : α} {f : Int → α} (hl : l.length = n) (hk : k < n) (h : ∀ p : Nat, p < k → el l p = f p) (hv : v = f k) : ∀ p : Nat, p < k + 1 → el (l.set (k : Int).toNat v) p = f p := by
  intro p hp
  by_cases e : p = k
  · subst e; rw [el_set_same (by omega) (by omega)]; exact hv
  · rw [el_set_ne (by omega) (by omega) (by omega)]; exact h p (by omega)
theorem pos_fixed {S S' : IS} {q : Int} (h : IStep S S') (hS : IsOk S) (h0 : 0 ≤ q) (h1 : q < S.rs.length) (hf : 0 ≤ holder S q ∨ 0 < flk S q) : position S' q = position S q := by
  have hr : isR S q = true := isR_iff.2 ⟨h0, h1⟩
  have hr' : isR S' q = true := isR_iff.2 ⟨h0, by rw [h.same.2]; exact h1⟩
  unfold position
  rw [if_pos hr, if_pos hr']
  refine h.fixed hS h0 h1 ?_
  rcases hf with hf | hf
  · left; unfold holder at hf; rw [if_pos hr] at hf; omega
  · exact .inr hf
theorem safe_pos {S : IS} {f : Fk} (hS : IsOk S) (hs : SafeI S) (hf : f ∈ S.fl) (hh : 0 ≤ holder S f.rs) : position S f.pt = f.po := by
  have hr := hS.fl.ok f hf
  unfold holder at hh
  rw [if_pos (isR_iff.2 ⟨hr.1, hr.2.1⟩)] at hh
  unfold position
  rw [if_pos (isR_iff.2 ⟨hr.2.2.1, hr.2.2.2.1⟩)]
  exact hs f hf (by omega)

set_option maxHeartbeats 1000000 in
set_option maxRecDepth 100000 in
theorem law32_InterlockNew_ok (n : Int) (ar : Option Addr) (cr : Nat) (fl : List Fk) (a0 : Option Addr) (c0 : Nat) (l0 : List Int) (w : World) (hR : Sl encFk 3 0 w.heap.size w ar fl) (hlr : (fl.length : Int) ≤ 9223372036854775807) (hcr : fl.length ≤ cr) (hL0 : Ints 0 w.heap.size w a0 l0) (hl0 : (l0.length : Int) ≤ 9223372036854775807) : Cal Try.prog 3 [.int .i64 n, .slice ar fl.length cr, .slice a0 l0.length c0] w (fun v w' => v = .bool true ∧ Ext w w') := by
  have hE : Out 0 0 w w := Out.refl _ _ w
  refine enter Try.func3 rfl Try.ntmps3 rfl ?_
  refine wp_seq ?_
  refine rg ?_
  refine st (asB rfl) ?_
  refine rg_end ?_
  refine n_then ?_
  refine wp_seq ?_
  refine rg ?_
  refine st (mvI rfl) ?_
  refine st (mvS rfl) ?_
  refine sc cl10 (ilk_New_ok n fl _ _ _ _ _ hR hcr hlr) rfl ?_
  rintro v5 w1 ⟨p1, e1, rfl, he1, hpa1, hpb1, ho2⟩
  have hq1 := new_nil hpa1 hpb1
  have hz6 := ho2.size
  replace hR := hR.ext ho2
  replace hL0 := hL0.ext ho2
  replace hE := hE.step ho2 (.inl (Nat.le_refl _))
  refine st (mvT rfl) ?_
  refine st (y_ext rfl rfl) ?_
  refine st (y_ext rfl rfl) ?_
  refine st (asP rfl) ?_
  refine st (asI rfl) ?_
  refine rg_end ?_
  refine n_then ?_
  refine wp_seq ?_
  refine rg ?_
  refine st (mvI rfl) ?_
  refine st (mvS rfl) ?_
  refine sc cl11 (rlk_New_ok n fl _ _ _ _ _ hR hcr hlr) rfl ?_
  rintro v11 w7 ⟨p2, e2, rfl, he2, hpa2, hpb2, ho8⟩
  have hq2 := new_nil hpa2 hpb2
  have hz12 := ho8.size
  replace hR := hR.ext ho8
  replace hL0 := hL0.ext ho8
  replace hE := hE.step ho8 (.inl (Nat.le_refl _))
  refine st (mvT rfl) ?_
  refine st (y_ext rfl rfl) ?_
  refine st (y_ext rfl rfl) ?_
  refine st (asP rfl) ?_
  refine st (asI rfl) ?_
  refine rg_end ?_
  refine n_then ?_
  refine wp_seq ?_
  refine rg ?_
  refine st (mvS rfl) ?_
  refine sc cl12 (keep_From_ok _ _ _ _ _ _ hL0 hl0) rfl ?_
  rintro v17 w13 ⟨bs, rfl, hbs, hzs, hS, ho14⟩
  have hbs0 := hbs
  have hz18 := ho14.size
  replace hR := hR.ext ho14
  replace hL0 := hL0.ext ho14
  replace hE := hE.step ho14 (.inl (Nat.le_refl _))
  refine st (asP rfl) ?_
  refine rg_end ?_
  refine n_then ?_
  refine wp_seq ?_
  refine rg ?_
  refine st (asS rfl) ?_
  refine rg_end ?_
  refine n_then ?_
  refine wp_seq ?_
  refine wp_seq ?_
  refine rg ?_
  refine st (mvP rfl) ?_
  refine sc cl13 (keep_Next_ok _ _ _ _ _ hS (by omega) (by omega) (by omega)) rfl ?_
  rintro v23 w19 ⟨k0, rfl, k0_0, k0_1, hS, ho20⟩
  have hz24 := ho20.size
  replace hR := hR.out ho20 (by first | omega | (simp only [blk_some, hi1_some] at *; omega))
  replace hL0 := hL0.out ho20 (by first | omega | (simp only [blk_some, hi1_some] at *; omega))
  replace hE := hE.step ho20 (by first | omega | (simp only [blk_some, hi1_some] at *; omega))
  refine st (asI rfl) ?_
  refine rg_end ?_
  refine n_then ?_
  refine wp_block ?_
  obtain ⟨z2, hz2⟩ : ∃ z, z = w19.heap.size := ⟨_, rfl⟩
  refine lp (γ := Int × List Fk × Option Addr × Nat) [12, 13, 36, 37, 38, 39, 40, 41, 42, 43, 44, 45, 46, 47, 48, 49] (fun ⟨k, mf, af, cf⟩ => [(13, .int .i64 k), (12, .slice af mf.length cf)]) (fun ⟨k, mf, af, cf⟩ w_ => Out bs (bs + 1) w19 w_ ∧ 0 ≤ k ∧ k + mf.length ≤ 4 ∧ Src 0 w.heap.size bs w_ ∧ Ow 35 encFk 3 z2 w_.heap.size w_ af cf mf) (fun ⟨k, mf, af, cf⟩ => k.toNat) (_, [], none, 0) ⟨rfl, rfl, trivial⟩ ⟨Out.refl _ _ _, by omega, by simp; omega, hS, Ow.nil (fun _ => rfl)⟩ ?_
  rintro ⟨k, mf, af, cf⟩ hav_ w25 ⟨ho26, hk0, hk4, hS, hmv⟩
  have hlp0 := ho26
  have hz27 := ho26.size
  replace hR := hR.out ho26 (by first | omega | (simp only [blk_some, hi1_some] at *; omega))
  replace hL0 := hL0.out ho26 (by first | omega | (simp only [blk_some, hi1_some] at *; omega))
  replace hE := hE.step ho26 (by first | omega | (simp only [blk_some, hi1_some] at *; omega))
  refine wp_seq ?_
  refine wp_seq ?_
  refine rg ?_
  refine st (mvI rfl) ?_
  refine st (y_gtr rfl rfl) ?_
  refine rg_end ?_
  refine n_then ?_
  refine cnd rfl (fun hc0 => ?_) (fun hc0 => ?_)
  ·
    try simp only [decide_eq_true_eq, decide_eq_false_iff_not, Bool.not_eq_true', Bool.not_eq_false', Bool.and_eq_true, Bool.or_eq_true, Bool.or_eq_false_iff, Bool.cond_true_right, Bool.cond_false_right, Bool.cond_true_left, Bool.cond_false_left, ne_eq, Decidable.not_not, bne_iff_ne, beq_iff_eq, beq_eq_false_iff_ne, Bool.not_true, Bool.not_false] at hc0
    refine wp_skip ?_
    refine n_then ?_
    refine wp_seq ?_
    refine wp_block ?_
    refine rg ?_
    refine st (mvS rfl) ?_
    refine st (mvP rfl) ?_
    refine sc cl13 (keep_Next_ok _ _ _ _ _ hS (by omega) (by omega) (by omega)) rfl ?_
    rintro v32 w28 ⟨x1, rfl, x1_0, x1_1, hS, ho29⟩
    have hz33 := ho29.size
    replace hR := hR.out ho29 (by first | omega | (simp only [blk_some, hi1_some] at *; omega))
    replace hL0 := hL0.out ho29 (by first | omega | (simp only [blk_some, hi1_some] at *; omega))
    replace hE := hE.step ho29 (by first | omega | (simp only [blk_some, hi1_some] at *; omega))
    have hrnhmv := hmv.rng
    replace hmv := hmv.out ho29 (by first | omega | (simp only [blk_some, hi1_some] at *; omega))
    replace hlp0 := hlp0.step ho29 (by first | omega | (simp only [blk_some, hi1_some] at *; omega))
    refine st (mvP rfl) ?_
    refine sc cl13 (keep_Next_ok _ _ _ _ _ hS (by omega) (by omega) (by omega)) rfl ?_
    rintro v38 w34 ⟨x2, rfl, x2_0, x2_1, hS, ho35⟩
    have hz39 := ho35.size
    replace hR := hR.out ho35 (by first | omega | (simp only [blk_some, hi1_some] at *; omega))
    replace hL0 := hL0.out ho35 (by first | omega | (simp only [blk_some, hi1_some] at *; omega))
    replace hE := hE.step ho35 (by first | omega | (simp only [blk_some, hi1_some] at *; omega))
    replace hmv := hmv.out ho35 (by first | omega | (simp only [blk_some, hi1_some] at *; omega))
    replace hlp0 := hlp0.step ho35 (by first | omega | (simp only [blk_some, hi1_some] at *; omega))
    refine st (mvP rfl) ?_
    refine sc cl13 (keep_Next_ok _ _ _ _ _ hS (by omega) (by omega) (by omega)) rfl ?_
    rintro v44 w40 ⟨x3, rfl, x3_0, x3_1, hS, ho41⟩
    have hz45 := ho41.size
    replace hR := hR.out ho41 (by first | omega | (simp only [blk_some, hi1_some] at *; omega))
    replace hL0 := hL0.out ho41 (by first | omega | (simp only [blk_some, hi1_some] at *; omega))
    replace hE := hE.step ho41 (by first | omega | (simp only [blk_some, hi1_some] at *; omega))
    replace hmv := hmv.out ho41 (by first | omega | (simp only [blk_some, hi1_some] at *; omega))
    replace hlp0 := hlp0.step ho41 (by first | omega | (simp only [blk_some, hi1_some] at *; omega))
    refine st (y_build (bld35_0_1_2 _ _ _ _) rfl) ?_
    refine sd (d_bs (bsl22_1 _ _ _ _) rfl ?_)
    intro bl49 w46 hbbl49 hs48 ho47 hbl49
    have hz50 := ho47.size
    replace hR := hR.ext ho47
    replace hL0 := hL0.ext ho47
    replace hE := hE.step ho47 (.inl (Nat.le_refl _))
    replace hS := hS.ext ho47
    replace hmv := hmv.ext ho47
    replace hlp0 := hlp0.step ho47 (.inl (Nat.le_refl _))
    have hrhmv := hmv.rng
    refine sd (d_app (xs := [(⟨_, _, _⟩ : Fk)]) hmv sl22 infoz35 (by decide) rfl rfl rfl rfl (hbl49) (fun _ => rfl) (by simp; unfold maxLen; omega) (by simp; omega) (by omega) (by omega) ?_)
    intro af1 cf1 w51 ho52 hmv'
    have hs53 := ho52.size
    clear hmv; have hmv := hmv'; clear hmv'
    have hz56 := ho52.size
    replace hR := hR.out ho52 (by first | omega | (simp only [blk_some, hi1_some] at *; omega))
    replace hL0 := hL0.out ho52 (by first | omega | (simp only [blk_some, hi1_some] at *; omega))
    replace hE := hE.step ho52 (by first | omega | (simp only [blk_some, hi1_some] at *; omega))
    replace hS := hS.out ho52 (by first | omega | (simp only [blk_some, hi1_some] at *; omega))
    replace hlp0 := hlp0.step ho52 (by first | omega | (simp only [blk_some, hi1_some] at *; omega))
    refine st (asS rfl) ?_
    refine rg_end ?_
    refine n_blk ?_
    refine n_then ?_
    refine rg ?_
    refine st (mvI rfl) ?_
    refine st (y_sub rfl rfl (by omega)) ?_
    refine st (asI rfl) ?_
    refine rg_end ?_
    exact n_then ⟨(k - 1, _, _, _), _, rfl, same_lk rfl (same_h0), ⟨rfl, rfl, trivial⟩, ⟨hlp0, by omega, by simp; omega, hS, hmv.wide (by omega)⟩, by first | omega | (dsimp only; omega)⟩
  ·
    try simp only [decide_eq_true_eq, decide_eq_false_iff_not, Bool.not_eq_true', Bool.not_eq_false', Bool.and_eq_true, Bool.or_eq_true, Bool.or_eq_false_iff, Bool.cond_true_right, Bool.cond_false_right, Bool.cond_true_left, Bool.cond_false_left, ne_eq, Decidable.not_not, bne_iff_ne, beq_iff_eq, beq_eq_false_iff_ne, Bool.not_true, Bool.not_false] at hc0
    have hcm := hmv.lenLe
    refine wp_exit ?_
    refine e_then (e_then (e_blk (?_)))
    refine n_then ?_
    refine wp_seq ?_
    refine rg ?_
    refine st (mvS rfl) ?_
    refine sc cl10 (ilk_New_ok 5 mf _ _ _ _ _ (Ow.sl hmv) hcm (by omega)) rfl ?_
    rintro v61 w57 ⟨p3, e3, rfl, he3, hpa3, hpb3, ho58⟩
    have hq3 := new_nil hpa3 hpb3
    have hz62 := ho58.size
    replace hR := hR.ext ho58
    replace hL0 := hL0.ext ho58
    replace hE := hE.step ho58 (.inl (Nat.le_refl _))
    replace hS := hS.ext ho58
    replace hmv := hmv.ext ho58
    refine st (mvT rfl) ?_
    refine st (y_ext rfl rfl) ?_
    refine st (y_ext rfl rfl) ?_
    refine st (asP rfl) ?_
    refine st (asI rfl) ?_
    refine rg_end ?_
    refine n_then ?_
    refine wp_seq ?_
    refine rg ?_
    refine st (mvS rfl) ?_
    refine sc cl11 (rlk_New_ok 5 mf _ _ _ _ _ (Ow.sl hmv) hcm (by omega)) rfl ?_
    rintro v67 w63 ⟨p4, e4, rfl, he4, hpa4, hpb4, ho64⟩
    have hq4 := new_nil hpa4 hpb4
    have hz68 := ho64.size
    replace hR := hR.ext ho64
    replace hL0 := hL0.ext ho64
    replace hE := hE.step ho64 (.inl (Nat.le_refl _))
    replace hS := hS.ext ho64
    replace hmv := hmv.ext ho64
    refine st (mvT rfl) ?_
    refine st (y_ext rfl rfl) ?_
    refine st (y_ext rfl rfl) ?_
    refine st (asP rfl) ?_
    refine st (asI rfl) ?_
    refine rg_end ?_
    refine n_then ?_
    refine wp_seq ?_
    refine rg ?_
    refine sc cl10 (ilk_New_ok 145 [] _ _ _ _ _ (nilFk _) (by decide) (by decide)) rfl ?_
    rintro v73 w69 ⟨p5, e5, rfl, he5, hpa5, hpb5, ho70⟩
    obtain rfl : e5 = 4 := he5.trans (by kernel_rfl)
    have hz74 := ho70.size
    replace hR := hR.ext ho70
    replace hL0 := hL0.ext ho70
    replace hE := hE.step ho70 (.inl (Nat.le_refl _))
    replace hS := hS.ext ho70
    replace hmv := hmv.ext ho70
    refine st (mvT rfl) ?_
    refine st (y_ext rfl rfl) ?_
    refine st (y_ext rfl rfl) ?_
    refine st (asP rfl) ?_
    refine st (asI rfl) ?_
    refine rg_end ?_
    refine n_then ?_
    refine wp_seq ?_
    refine rg ?_
    refine sc cl14 (law32_awake_ok _) rfl ?_
    rintro v79 w75 ⟨rfl, ho76⟩
    have hz80 := ho76.size
    replace hR := hR.ext ho76
    replace hL0 := hL0.ext ho76
    replace hE := hE.step ho76 (.inl (Nat.le_refl _))
    replace hS := hS.ext ho76
    replace hmv := hmv.ext ho76
    refine st (mvB rfl) ?_
    refine stg rfl rfl rfl (mvI rfl) ?_
    refine stg rfl rfl rfl (mvI rfl) ?_
    refine stg rfl rfl rfl (y_eql rfl rfl) ?_
    refine st (y_pickT rfl rfl (v := .bool _) rfl) ?_
    refine st (mvB rfl) ?_
    refine stg rfl rfl (decide_eq_true (he1.trans he2.symm)) (mvI rfl) ?_
    refine stg rfl rfl (decide_eq_true (he1.trans he2.symm)) (mvI rfl) ?_
    refine stg rfl rfl (decide_eq_true (he1.trans he2.symm)) (y_eql rfl rfl) ?_
    refine st (y_pickT rfl (decide_eq_true (he1.trans he2.symm)) (v := .bool _) rfl) ?_
    refine st (mvB rfl) ?_
    refine stg rfl rfl (decide_eq_true (he3.trans he4.symm)) (mvI rfl) ?_
    refine stg rfl rfl (decide_eq_true (he3.trans he4.symm)) (y_eql rfl rfl) ?_
    refine st (y_pickT rfl (decide_eq_true (he3.trans he4.symm)) (v := .bool _) rfl) ?_
    refine st (mvB rfl) ?_
    refine stg rfl rfl (decide_eq_true rfl) (mvI rfl) ?_
    refine stg rfl rfl (decide_eq_true rfl) (y_eql rfl rfl) ?_
    refine stg rfl rfl (decide_eq_true rfl) (mvP rfl) ?_
    refine stg rfl rfl (decide_eq_true rfl) (y_nnilP ptr24 rfl rfl) ?_
    refine stg rfl rfl (decide_eq_true rfl) (y_eqlB rfl rfl Try.underlying4) ?_
    refine st (y_pickT rfl (decide_eq_true rfl) (v := .bool _) rfl) ?_
    refine st (mvB rfl) ?_
    refine stg rfl rfl hq1 (mvI rfl) ?_
    refine stg rfl rfl hq1 (y_eql rfl rfl) ?_
    refine stg rfl rfl hq1 (mvP rfl) ?_
    refine stg rfl rfl hq1 (y_nnilP ptr24 rfl rfl) ?_
    refine stg rfl rfl hq1 (y_eqlB rfl rfl Try.underlying4) ?_
    refine st (y_pickT rfl hq1 (v := .bool _) rfl) ?_
    refine st (asB rfl) ?_
    refine rg_end ?_
    refine n_then ?_
    refine wp_ret ?_
    refine ret1 (v := (.bool _)) Try.results3 rfl ?_
    exact ⟨by rw [hq3], hE⟩

set_option maxHeartbeats 1000000 in
set_option maxRecDepth 100000 in
theorem law32_InterlockAtomic_ok (a0 : Option Addr) (c0 : Nat) (l0 : List Int) (tr : Int) (w : World) (hL0 : Ints 0 w.heap.size w a0 l0) (hl0 : (l0.length : Int) ≤ 9223372036854775807) : Cal Try.prog 9 [.slice a0 l0.length c0, .int .i64 tr] w (fun v w' => v = .bool true ∧ Ext w w') := by
  have hE : Out 0 0 w w := Out.refl _ _ w
  refine enter Try.func9 rfl Try.ntmps9 rfl ?_
  refine wp_seq ?_
  refine rg ?_
  refine st (asB rfl) ?_
  refine rg_end ?_
  refine n_then ?_
  refine wp_seq ?_
  refine rg ?_
  refine st (mvS rfl) ?_
  refine sc cl12 (keep_From_ok _ _ _ _ _ _ hL0 hl0) rfl ?_
  rintro v5 w1 ⟨bs, rfl, hbs, hzs, hS, ho2⟩
  have hbs0 := hbs
  have hz6 := ho2.size
  replace hL0 := hL0.ext ho2
  replace hE := hE.step ho2 (.inl (Nat.le_refl _))
  refine st (asP rfl) ?_
  refine rg_end ?_
  refine n_then ?_
  refine wp_seq ?_
  refine rg ?_
  refine st (mvP rfl) ?_
  refine sc cl15 (law32_flanks_ok _ _ _ _ hS (by omega) (by omega)) rfl ?_
  rintro v11 w7 ⟨af, cf, fl, rfl, hmd, hF, hS, ho8⟩
  have hfl5 := hmd.len
  have hcf := hF.lenLe
  have hz12 := ho8.size
  replace hL0 := hL0.out ho8 (by first | omega | (simp only [blk_some, hi1_some] at *; omega))
  replace hE := hE.step ho8 (by first | omega | (simp only [blk_some, hi1_some] at *; omega))
  refine st (asS rfl) ?_
  refine rg_end ?_
  refine n_then ?_
  refine wp_seq ?_
  refine rg ?_
  refine st (mvS rfl) ?_
  refine sc cl10 (ilk_New_ok 6 fl _ _ _ _ _ (Ow.sl hF) hcf (by omega)) rfl ?_
  rintro v17 w13 ⟨p, e, rfl, he, hp0, hp1, ho14⟩
  obtain rfl : e = 0 := he.trans hmd.new
  obtain ⟨bx, rfl, hX⟩ := hp1 rfl
  obtain ⟨lx, hx, hlx, hhx, hX⟩ := hX.named
  have hI0 : IsOk (initS (6 : Int).toNat fl) := initS_ok hmd.new
  have hxr := hX.rng
  have hz18 := ho14.size
  replace hL0 := hL0.ext ho14
  replace hE := hE.step ho14 (.inl (Nat.le_refl _))
  replace hS := hS.ext ho14
  replace hF := hF.ext ho14
  refine st (mvT rfl) ?_
  refine st (y_ext rfl rfl) ?_
  refine st (y_ext rfl rfl) ?_
  refine st (asP rfl) ?_
  refine st (asI rfl) ?_
  refine rg_end ?_
  refine n_then ?_
  refine wp_seq ?_
  refine rg ?_
  refine st (mvS rfl) ?_
  refine sc cl11 (rlk_New_ok 6 fl _ _ _ _ _ (Ow.sl hF) hcf (by omega)) rfl ?_
  rintro v23 w19 ⟨p', e', rfl, he', hp0', hp1', ho20⟩
  obtain rfl : e' = 0 := he'.trans hmd.new
  obtain ⟨yb, rfl, hY⟩ := hp1' rfl
  obtain ⟨ly, hy, hly, hhy, hY⟩ := hY.named
  have hyr := hY.rng
  have hz24 := ho20.size
  replace hL0 := hL0.ext ho20
  replace hE := hE.step ho20 (.inl (Nat.le_refl _))
  replace hS := hS.ext ho20
  replace hF := hF.ext ho20
  replace hX := hX.ext ho20
  refine st (mvT rfl) ?_
  refine st (y_ext rfl rfl) ?_
  refine st (y_ext rfl rfl) ?_
  refine st (asP rfl) ?_
  refine st (asI rfl) ?_
  refine rg_end ?_
  refine n_then ?_
  refine wp_seq ?_
  refine wp_seq ?_
  refine rg ?_
  refine st (mvI rfl) ?_
  refine st (y_neq rfl rfl) ?_
  refine st (mvB rfl) ?_
  refine stg rfl rfl (by decide) (mvP rfl) ?_
  refine stg rfl rfl (by decide) (y_nilP ptr24 rfl rfl) ?_
  refine st (y_pickF rfl (by decide) (v := .bool _) rfl) ?_
  refine st (mvB rfl) ?_
  refine stg rfl rfl (show (some (⟨bx, 0, none⟩ : Addr)).isNone = false from rfl) (mvP rfl) ?_
  refine stg rfl rfl (show (some (⟨bx, 0, none⟩ : Addr)).isNone = false from rfl) (y_nilP ptr28 rfl rfl) ?_
  refine st (y_pickF rfl (show (some (⟨bx, 0, none⟩ : Addr)).isNone = false from rfl) (v := .bool _) rfl) ?_
  refine rg_end ?_
  refine n_then ?_
  refine cnd rfl (fun hc0 => absurd ((show (some (⟨yb, 0, none⟩ : Addr)).isNone = false from rfl).symm.trans hc0) (by decide)) (fun hc0 => ?_)
  refine wp_skip ?_
  refine n_then ?_
  refine wp_seq ?_
  refine wp_seq ?_
  refine rg ?_
  refine st (asI rfl) ?_
  refine rg_end ?_
  refine n_then ?_
  refine wp_block ?_
  refine lp (γ := Nat × IS) [4, 11, 12, 13, 15, 40, 41, 42, 43, 44, 45, 46, 47, 48, 49, 50, 51, 52, 53, 54, 55, 56, 57, 58, 59, 60, 61, 62, 63, 64, 65, 66, 67, 68, 69, 70, 71, 72, 73, 74, 75, 76, 77, 78, 79, 80, 81, 82, 83, 84, 85, 86, 87, 88, 89, 90, 91, 92, 93, 94, 95, 96, 97, 98, 99] (fun ⟨k, S⟩ => [(11, .int .i64 (k : Int))]) (fun ⟨k, S⟩ w_ => Out bs hy w19 w_ ∧ (k : Int) ≤ 20 ∧ IsOk S ∧ Ilk lx hx bx w_ S ∧ Rlk ly hy yb w_ S ∧ Src 0 w.heap.size bs w_) (fun ⟨k, S⟩ => 20 - k) (0, initS (6 : Int).toNat fl) ⟨rfl, trivial⟩ ⟨Out.refl _ _ _, by decide, hI0, hX, hY, hS⟩ ?_
  rintro ⟨k, S⟩ hav_ w25 ⟨ho26, hk, hI, hX, hY, hS⟩
  have hlp0 := ho26
  have hz27 := ho26.size
  replace hL0 := hL0.out ho26 (by first | omega | (simp only [blk_some, hi1_some] at *; omega))
  replace hE := hE.step ho26 (by first | omega | (simp only [blk_some, hi1_some] at *; omega))
  refine wp_seq ?_
  refine wp_seq ?_
  refine rg ?_
  refine st (mvI rfl) ?_
  refine st (y_lss rfl rfl) ?_
  refine st (mvB rfl) ?_
  refine gspL 42 rfl (fun hg28 => ?_) (fun hg28 => ?_)
  ·
    have hg28n := hg28; try simp only [decide_eq_true_eq, decide_eq_false_iff_not, Bool.not_eq_true', Bool.not_eq_false', Bool.and_eq_true, Bool.or_eq_true, Bool.or_eq_false_iff, Bool.cond_true_right, Bool.cond_false_right, Bool.cond_true_left, Bool.cond_false_left, ne_eq, Decidable.not_not, bne_iff_ne, beq_iff_eq, beq_eq_false_iff_ne, Bool.not_true, Bool.not_false] at hg28n
    refine stg rfl rfl hg28 (mvP rfl) ?_
    refine scg rfl rfl hg28 cl16 (keep_Left_ok _ _ _ _ hS) rfl ?_
    rintro v33 w29 ⟨q32, rfl, ho30⟩
    have hz34 := ho30.size
    replace hL0 := hL0.ext ho30
    replace hE := hE.step ho30 (.inl (Nat.le_refl _))
    replace hX := hX.ext ho30
    replace hY := hY.ext ho30
    replace hS := hS.ext ho30
    replace hlp0 := hlp0.step ho30 (.inl (Nat.le_refl _))
    refine st (y_pickT rfl hg28 (v := .bool _) rfl) ?_
    refine rg_end ?_
    refine n_then ?_
    refine cnd rfl (fun hc1 => ?_) (fun hc1 => ?_)
    ·
      try simp only [decide_eq_true_eq, decide_eq_false_iff_not, Bool.not_eq_true', Bool.not_eq_false', Bool.and_eq_true, Bool.or_eq_true, Bool.or_eq_false_iff, Bool.cond_true_right, Bool.cond_false_right, Bool.cond_true_left, Bool.cond_false_left, ne_eq, Decidable.not_not, bne_iff_ne, beq_iff_eq, beq_eq_false_iff_ne, Bool.not_true, Bool.not_false] at hc1
      refine wp_skip ?_
      refine n_then ?_
      refine wp_seq ?_
      refine wp_block ?_
      refine wp_seq ?_
      refine wp_seq ?_
      refine rg ?_
      refine st (mvP rfl) ?_
      refine st (mvP rfl) ?_
      refine st (mvP rfl) ?_
      refine sc cl20 (law32_act_ok S lx hx bx ly hy yb _ _ bs bs _ hX hY hI hS (by omega) (by omega) (by omega) (by omega) (by omega)) rfl ?_
      rintro v39 w35 ⟨rfl, S', hst, hX, hY, hS, hK, ho36⟩
      have hI' := hst.ok hI
      have hz40 := ho36.size
      replace hL0 := hL0.out ho36 (by first | omega | (simp only [blk_some, hi1_some] at *; omega))
      replace hE := hE.step ho36 (by first | omega | (simp only [blk_some, hi1_some] at *; omega))
      replace hlp0 := hlp0.step ho36 (by first | omega | (simp only [blk_some, hi1_some] at *; omega))
      refine st (y_not rfl) ?_
      refine rg_end ?_
      refine n_then ?_
      refine cnd rfl (fun hc2 => absurd hc2 (by decide)) (fun hc2 => ?_)
      refine wp_skip ?_
      refine n_then ?_
      refine wp_seq ?_
      refine rg ?_
      refine st (mvI rfl) ?_
      refine st (mvI rfl) ?_
      refine st (y_addW rfl rfl) ?_
      refine sc cl21 (keep_Pick_ok _ _ _ (by omega) (by omega)) rfl ?_
      rintro v45 w41 ⟨rfl, ho42⟩
      have hz46 := ho42.size
      replace hL0 := hL0.ext ho42
      replace hE := hE.step ho42 (.inl (Nat.le_refl _))
      replace hX := hX.ext ho42
      replace hY := hY.ext ho42
      replace hS := hS.ext ho42
      replace hlp0 := hlp0.step ho42 (.inl (Nat.le_refl _))
      refine st (asI rfl) ?_
      refine rg_end ?_
      refine n_then ?_
      refine wp_seq ?_
      refine rg ?_
      refine st (mvP rfl) ?_
      refine sc cl33 (law32_locks_ok _ _ _ _ hS (by omega) (by omega)) rfl ?_
      rintro v51 w47 ⟨al, cl, l, rfl, hl3, hL, hS, ho48⟩
      have hz52 := ho48.size
      replace hL0 := hL0.out ho48 (by first | omega | (simp only [blk_some, hi1_some] at *; omega))
      replace hE := hE.step ho48 (by first | omega | (simp only [blk_some, hi1_some] at *; omega))
      replace hX := hX.out ho48 (by first | omega | (simp only [blk_some, hi1_some] at *; omega))
      replace hY := hY.out ho48 (by first | omega | (simp only [blk_some, hi1_some] at *; omega))
      replace hlp0 := hlp0.step ho48 (by first | omega | (simp only [blk_some, hi1_some] at *; omega))
      refine st (asS rfl) ?_
      refine rg_end ?_
      refine n_then ?_
      refine wp_seq ?_
      refine wp_seq ?_
      refine rg ?_
      refine st (mvP rfl) ?_
      refine st (mvI rfl) ?_
      refine st (mvS rfl) ?_
      refine sc cl22 (ilk_Grant_ok S' _ _ _ _ l _ _ _ _ _ hX hI' (Ow.sl hL) (by omega) (by omega) (by omega)) rfl ?_
      rintro v57 w53 ⟨rfl, hX, ho54⟩
      have hz58 := ho54.size
      replace hL0 := hL0.out ho54 (by first | omega | (simp only [blk_some, hi1_some] at *; omega))
      replace hE := hE.step ho54 (by first | omega | (simp only [blk_some, hi1_some] at *; omega))
      replace hY := hY.out ho54 (by first | omega | (simp only [blk_some, hi1_some] at *; omega))
      replace hS := hS.out ho54 (by first | omega | (simp only [blk_some, hi1_some] at *; omega))
      replace hlp0 := hlp0.step ho54 (by first | omega | (simp only [blk_some, hi1_some] at *; omega))
      have hrnhL := hL.rng
      replace hL := hL.out ho54 (by first | omega | (simp only [blk_some, hi1_some] at *; omega))
      refine st (y_neq rfl rfl) ?_
      refine rg_end ?_
      refine n_then ?_
      refine cnd rfl (fun hc3 => ?_) (fun hc3 => ?_)
      ·
        try simp only [decide_eq_true_eq, decide_eq_false_iff_not, Bool.not_eq_true', Bool.not_eq_false', Bool.and_eq_true, Bool.or_eq_true, Bool.or_eq_false_iff, Bool.cond_true_right, Bool.cond_false_right, Bool.cond_true_left, Bool.cond_false_left, ne_eq, Decidable.not_not, bne_iff_ne, beq_iff_eq, beq_eq_false_iff_ne, Bool.not_true, Bool.not_false] at hc3
        rw [grS_err hc3] at hX
        have hI2 := hI'
        refine wp_seq ?_
        refine wp_seq ?_
        refine rg ?_
        refine st (mvP rfl) ?_
        refine st (mvP rfl) ?_
        refine sc cl28 (law32_agrees_ok S' _ _ _ _ _ _ _ hX hY hI') rfl ?_
        rintro v63 w59 ⟨rfl, ho60⟩
        have hz64 := ho60.size
        replace hL0 := hL0.ext ho60
        replace hE := hE.step ho60 (.inl (Nat.le_refl _))
        replace hX := hX.ext ho60
        replace hY := hY.ext ho60
        replace hS := hS.ext ho60
        replace hlp0 := hlp0.step ho60 (.inl (Nat.le_refl _))
        replace hL := hL.ext ho60
        refine st (y_not rfl) ?_
        refine rg_end ?_
        refine n_then ?_
        refine cnd rfl (fun hc4 => absurd hc4 (by decide)) (fun hc4 => ?_)
        refine wp_skip ?_
        refine n_then ?_
        refine wp_exit ?_
        refine e_then (e_blk (?_))
        refine n_then ?_
        refine rg ?_
        refine st (mvI rfl) ?_
        refine st (y_add rfl rfl (by omega)) ?_
        refine st (asI rfl) ?_
        refine rg_end ?_
        exact n_then ⟨(k + 1, _), _, rfl, same_lk rfl (same_h0), ⟨rfl, trivial⟩, ⟨hlp0, by omega, hI2, hX, hY, hS⟩, by first | omega | (dsimp only; omega)⟩
      ·
        try simp only [decide_eq_true_eq, decide_eq_false_iff_not, Bool.not_eq_true', Bool.not_eq_false', Bool.and_eq_true, Bool.or_eq_true, Bool.or_eq_false_iff, Bool.cond_true_right, Bool.cond_false_right, Bool.cond_true_left, Bool.cond_false_left, ne_eq, Decidable.not_not, bne_iff_ne, beq_iff_eq, beq_eq_false_iff_ne, Bool.not_true, Bool.not_false] at hc3
        have hI2 := grantS_ok hI' (pick (IntKind.i64.wrap (tr + (k : Int))) 3) l
        refine wp_skip ?_
        refine n_then ?_
        refine wp_seq ?_
        refine wp_seq ?_
        refine rg ?_
        refine st (mvP rfl) ?_
        refine st (mvI rfl) ?_
        refine st (mvS rfl) ?_
        refine sc cl29 (rlk_Grant_ok S' _ _ _ _ l _ _ _ _ _ hY hI' (Ow.sl hL) (by omega) (by omega) (by omega)) rfl ?_
        rintro v69 w65 ⟨rfl, hY, ho66⟩
        have hz70 := ho66.size
        replace hL0 := hL0.out ho66 (by first | omega | (simp only [blk_some, hi1_some] at *; omega))
        replace hE := hE.step ho66 (by first | omega | (simp only [blk_some, hi1_some] at *; omega))
        replace hX := hX.out ho66 (by first | omega | (simp only [blk_some, hi1_some] at *; omega))
        replace hS := hS.out ho66 (by first | omega | (simp only [blk_some, hi1_some] at *; omega))
        replace hlp0 := hlp0.step ho66 (by first | omega | (simp only [blk_some, hi1_some] at *; omega))
        replace hL := hL.out ho66 (by first | omega | (simp only [blk_some, hi1_some] at *; omega))
        refine st (y_neq rfl rfl) ?_
        refine rg_end ?_
        refine n_then ?_
        refine cnd rfl (fun hc5 => absurd ((decide_eq_false (not_not_intro hc3)).symm.trans hc5) (by decide)) (fun hc5 => ?_)
        refine wp_skip ?_
        refine n_then ?_
        refine wp_seq ?_
        refine rg ?_
        refine st (mvS rfl) ?_
        refine st (y_len Try.underlying46 rfl) ?_
        refine st (mvI rfl) ?_
        refine rg_end ?_
        refine n_then ?_
        refine wp_block ?_
        refine lp (γ := Nat) [4, 15, 75, 76, 77, 78, 79, 80, 81, 82, 83, 84, 85, 86, 87, 88, 89, 90, 91, 92, 93, 94, 95, 96, 97, 98, 99] (fun j => [(75, .int .i64 (j : Int))]) (fun j w_ => Ext w65 w_ ∧ (j : Int) ≤ l.length) (fun j => l.length - j) 0 ⟨rfl, trivial⟩ ⟨Out.refl _ _ _, by omega⟩ ?_
        rintro j hav_ w71 ⟨ho72, hj⟩
        have hlp1 := ho72
        have hz73 := ho72.size
        replace hL0 := hL0.ext ho72
        replace hE := hE.step ho72 (.inl (Nat.le_refl _))
        replace hX := hX.ext ho72
        replace hY := hY.ext ho72
        replace hS := hS.ext ho72
        replace hlp0 := hlp0.step ho72 (.inl (Nat.le_refl _))
        replace hL := hL.ext ho72
        refine wp_seq ?_
        refine rg ?_
        refine st (y_lss rfl rfl) ?_
        refine rg_end ?_
        refine n_then ?_
        refine wp_seq ?_
        refine cnd rfl (fun hc6 => ?_) (fun hc6 => ?_)
        ·
          try simp only [decide_eq_true_eq, decide_eq_false_iff_not, Bool.not_eq_true', Bool.not_eq_false', Bool.and_eq_true, Bool.or_eq_true, Bool.or_eq_false_iff, Bool.cond_true_right, Bool.cond_false_right, Bool.cond_true_left, Bool.cond_false_left, ne_eq, Decidable.not_not, bne_iff_ne, beq_iff_eq, beq_eq_false_iff_ne, Bool.not_true, Bool.not_false] at hc6
          have hgh := grant_has hI' hc3 (el_mem (l := l) (i := (j : Int)) (by omega) hc6)
          refine wp_skip ?_
          refine n_then ?_
          refine wp_seq ?_
          refine wp_block ?_
          refine wp_seq ?_
          refine rg ?_
          refine st (y_ix hL.sl sl46 rfl (rfl) rfl (by omega) (by omega)) ?_
          refine st (y_lw hL.sl agg45 rfl (by omega) (by omega)) ?_
          refine sd (d_allocA zer45 ?_)
          intro b15 w74 hbb15 hs76 ho75 hb15
          have hz77 := ho75.size
          replace hL0 := hL0.ext ho75
          replace hE := hE.step ho75 (.inl (Nat.le_refl _))
          replace hX := hX.ext ho75
          replace hY := hY.ext ho75
          replace hS := hS.ext ho75
          replace hlp0 := hlp0.step ho75 (.inl (Nat.le_refl _))
          replace hL := hL.ext ho75
          replace hlp1 := hlp1.step ho75 (.inl (Nat.le_refl _))
          refine sd0 (d_stN hb15 rfl rfl sz45 rfl rfl ?_)
          intro w78 hs80 ho79 hb15'
          clear hb15; have hb15 := hb15'; clear hb15'
          have hz81 := ho79.size
          replace hL0 := hL0.out ho79 (by first | omega | (simp only [blk_some, hi1_some] at *; omega))
          replace hE := hE.step ho79 (by first | omega | (simp only [blk_some, hi1_some] at *; omega))
          replace hX := hX.out ho79 (by first | omega | (simp only [blk_some, hi1_some] at *; omega))
          replace hY := hY.out ho79 (by first | omega | (simp only [blk_some, hi1_some] at *; omega))
          replace hS := hS.out ho79 (by first | omega | (simp only [blk_some, hi1_some] at *; omega))
          replace hlp0 := hlp0.step ho79 (by first | omega | (simp only [blk_some, hi1_some] at *; omega))
          replace hL := hL.out ho79 (by first | omega | (simp only [blk_some, hi1_some] at *; omega))
          replace hlp1 := hlp1.step ho79 (by first | omega | (simp only [blk_some, hi1_some] at *; omega))
          refine rg_end ?_
          refine n_then ?_
          refine wp_seq ?_
          refine rgD 17 (fun w_ => Ext w78 w_) (fun i => Nat.beq i 3 || Nat.beq i 14) mixed (by kernel_rfl) ?_
          intro w82 ho83 hs84
          refine ⟨ho83, ?_⟩
          have hx85 := ho83
          refine tn rfl (fun _ hG => mvP rfl) ?_
          refine tn rfl (fun _ hG => y_fld fld45_0 rfl) ?_
          refine tn rfl (fun _ hG => y_lb (hb15.ext hG) na3 rfl rfl) ?_
          refine tc rfl cl18 (ilk_Holder_ok _ _ _ _ _ _ (hX.ext hx85) hI2) rfl ?_
          rintro v90 w86 ⟨rfl, ho87⟩
          have hx91 := hx85.step ho87 (.inl (Nat.le_refl _))
          have hz92 := ho87.size
          refine ⟨hx91, ?_⟩
          refine tn rfl (fun _ hG => mvI rfl) ?_
          refine tn rfl (fun _ hG => y_neq rfl rfl) ?_
          refine tn rfl (fun _ hG => mvB rfl) ?_
          refine tng rfl rfl rfl (decide_eq_false (not_not_intro hgh.1)) (fun _ hG => y_fld fld45_1 rfl) ?_
          refine tng rfl rfl rfl (decide_eq_false (not_not_intro hgh.1)) (fun _ hG => y_lb (hb15.ext hG) na3 rfl rfl) ?_
          refine tng rfl rfl rfl (decide_eq_false (not_not_intro hgh.1)) (fun _ hG => y_geq rfl rfl) ?_
          refine tng rfl rfl rfl (decide_eq_false (not_not_intro hgh.1)) (fun _ hG => mvB rfl) ?_
          refine gspT 89 rfl (fun hg93 => ?_) (fun hg93 => ?_)
          ·
            have hg93n := hg93; try simp only [decide_eq_true_eq, decide_eq_false_iff_not, Bool.not_eq_true', Bool.not_eq_false', Bool.and_eq_true, Bool.or_eq_true, Bool.or_eq_false_iff, Bool.cond_true_right, Bool.cond_false_right, Bool.cond_true_left, Bool.cond_false_left, ne_eq, Decidable.not_not, bne_iff_ne, beq_iff_eq, beq_eq_false_iff_ne, Bool.not_true, Bool.not_false] at hg93n
            have hpo := hg93n
            refine tng rfl rfl rfl hg93 (fun _ hG => mvP rfl) ?_
            refine tng rfl rfl rfl hg93 (fun _ hG => y_fld fld45_0 rfl) ?_
            refine tng rfl rfl rfl hg93 (fun _ hG => y_lb (hb15.ext hG) na3 rfl rfl) ?_
            refine tcg rfl rfl rfl hg93 cl17 (ilk_Position_ok _ _ _ _ _ _ (hX.ext hx91) hI2) rfl ?_
            rintro v98 w94 ⟨rfl, ho95⟩
            have hx99 := hx91.step ho95 (.inl (Nat.le_refl _))
            have hz100 := ho95.size
            refine ⟨hx99, ?_⟩
            refine tng rfl rfl rfl hg93 (fun _ hG => y_fld fld45_1 rfl) ?_
            refine tng rfl rfl rfl hg93 (fun _ hG => y_lb (hb15.ext hG) na3 rfl rfl) ?_
            refine t_end ?_
            have hz101 := hx99.size
            replace hL0 := hL0.ext hx99
            replace hE := hE.step hx99 (.inl (Nat.le_refl _))
            replace hX := hX.ext hx99
            replace hY := hY.ext hx99
            replace hS := hS.ext hx99
            replace hlp0 := hlp0.step hx99 (.inl (Nat.le_refl _))
            replace hL := hL.ext hx99
            replace hlp1 := hlp1.step hx99 (.inl (Nat.le_refl _))
            replace hb15 := hb15.ext hx99
            refine stg rfl rfl hg93 (y_neq rfl rfl) ?_
            refine stg rfl rfl (decide_eq_false (not_not_intro hgh.1)) (y_pickT rfl hg93 (v := .bool _) rfl) ?_
            refine st (y_pickF rfl (decide_eq_false (not_not_intro hgh.1)) (v := .bool _) rfl) ?_
            refine rg_end ?_
            refine n_then ?_
            refine cnd rfl (fun hc7 => absurd ((decide_eq_false (not_not_intro (hgh.2 hpo))).symm.trans hc7) (by decide)) (fun hc7 => ?_)
            refine wp_skip ?_
            refine n_blk ?_
            refine n_then ?_
            refine rg ?_
            refine st (y_add rfl rfl (by omega)) ?_
            refine st (mvI rfl) ?_
            refine rg_end ?_
            exact n_then ⟨j + 1, _, rfl, same_lk rfl (same_h0), ⟨rfl, trivial⟩, ⟨hlp1, by omega⟩, by first | omega | (dsimp only; omega)⟩
          ·
            have hg93n := hg93; try simp only [decide_eq_true_eq, decide_eq_false_iff_not, Bool.not_eq_true', Bool.not_eq_false', Bool.and_eq_true, Bool.or_eq_true, Bool.or_eq_false_iff, Bool.cond_true_right, Bool.cond_false_right, Bool.cond_true_left, Bool.cond_false_left, ne_eq, Decidable.not_not, bne_iff_ne, beq_iff_eq, beq_eq_false_iff_ne, Bool.not_true, Bool.not_false] at hg93n
            refine tns rfl rfl hg93 ?_
            refine tns rfl rfl hg93 ?_
            refine tns rfl rfl hg93 ?_
            refine tns rfl rfl hg93 ?_
            refine tns rfl rfl hg93 ?_
            refine tns rfl rfl hg93 ?_
            refine t_end ?_
            have hz102 := hx91.size
            replace hL0 := hL0.ext hx91
            replace hE := hE.step hx91 (.inl (Nat.le_refl _))
            replace hX := hX.ext hx91
            replace hY := hY.ext hx91
            replace hS := hS.ext hx91
            replace hlp0 := hlp0.step hx91 (.inl (Nat.le_refl _))
            replace hL := hL.ext hx91
            replace hlp1 := hlp1.step hx91 (.inl (Nat.le_refl _))
            replace hb15 := hb15.ext hx91
            refine sts rfl rfl hg93 ?_
            refine stg rfl rfl (decide_eq_false (not_not_intro hgh.1)) (y_pickF rfl hg93 (v := .bool _) rfl) ?_
            refine st (y_pickF rfl (decide_eq_false (not_not_intro hgh.1)) (v := .bool _) rfl) ?_
            refine rg_end ?_
            refine n_then ?_
            refine cnd rfl (fun hc7 => absurd hc7 (by decide)) (fun hc7 => ?_)
            refine wp_skip ?_
            refine n_blk ?_
            refine n_then ?_
            refine rg ?_
            refine st (y_add rfl rfl (by omega)) ?_
            refine st (mvI rfl) ?_
            refine rg_end ?_
            exact n_then ⟨j + 1, _, rfl, same_lk rfl (same_h0), ⟨rfl, trivial⟩, ⟨hlp1, by omega⟩, by first | omega | (dsimp only; omega)⟩
        ·
          try simp only [decide_eq_true_eq, decide_eq_false_iff_not, Bool.not_eq_true', Bool.not_eq_false', Bool.and_eq_true, Bool.or_eq_true, Bool.or_eq_false_iff, Bool.cond_true_right, Bool.cond_false_right, Bool.cond_true_left, Bool.cond_false_left, ne_eq, Decidable.not_not, bne_iff_ne, beq_iff_eq, beq_eq_false_iff_ne, Bool.not_true, Bool.not_false] at hc6
          refine wp_exit ?_
          refine e_then (e_then (e_blk (?_)))
          refine n_blk ?_
          refine n_then ?_
          refine rg ?_
          refine st (mvI rfl) ?_
          refine st (y_add rfl rfl (by omega)) ?_
          refine st (asI rfl) ?_
          refine rg_end ?_
          exact n_then ⟨(k + 1, _), _, rfl, same_lk rfl (same_hav rfl (same_lk rfl (same_h0))), ⟨rfl, trivial⟩, ⟨hlp0, by omega, hI2, hX, hY, hS⟩, by first | omega | (dsimp only; omega)⟩
    ·
      try simp only [decide_eq_true_eq, decide_eq_false_iff_not, Bool.not_eq_true', Bool.not_eq_false', Bool.and_eq_true, Bool.or_eq_true, Bool.or_eq_false_iff, Bool.cond_true_right, Bool.cond_false_right, Bool.cond_true_left, Bool.cond_false_left, ne_eq, Decidable.not_not, bne_iff_ne, beq_iff_eq, beq_eq_false_iff_ne, Bool.not_true, Bool.not_false] at hc1
      refine wp_exit ?_
      refine e_then (e_then (e_blk (?_)))
      refine n_then ?_
      refine wp_seq ?_
      refine rg ?_
      refine sc cl14 (law32_awake_ok _) rfl ?_
      rintro v107 w103 ⟨rfl, ho104⟩
      have hz108 := ho104.size
      replace hL0 := hL0.ext ho104
      replace hE := hE.step ho104 (.inl (Nat.le_refl _))
      replace hX := hX.ext ho104
      replace hY := hY.ext ho104
      replace hS := hS.ext ho104
      refine st (asB rfl) ?_
      refine rg_end ?_
      refine n_then ?_
      refine wp_ret ?_
      refine ret1 (v := (.bool _)) Try.results9 rfl ?_
      exact ⟨rfl, hE⟩
  ·
    have hg28n := hg28; try simp only [decide_eq_true_eq, decide_eq_false_iff_not, Bool.not_eq_true', Bool.not_eq_false', Bool.and_eq_true, Bool.or_eq_true, Bool.or_eq_false_iff, Bool.cond_true_right, Bool.cond_false_right, Bool.cond_true_left, Bool.cond_false_left, ne_eq, Decidable.not_not, bne_iff_ne, beq_iff_eq, beq_eq_false_iff_ne, Bool.not_true, Bool.not_false] at hg28n
    refine sts rfl rfl hg28 ?_
    refine sts rfl rfl hg28 ?_
    refine st (y_pickF rfl hg28 (v := .bool _) rfl) ?_
    refine rg_end ?_
    refine n_then ?_
    refine cnd rfl (fun hc1 => absurd hc1 (by decide)) (fun hc1 => ?_)
    refine wp_exit ?_
    refine e_then (e_then (e_blk (?_)))
    refine n_then ?_
    refine wp_seq ?_
    refine rg ?_
    refine sc cl14 (law32_awake_ok _) rfl ?_
    rintro v113 w109 ⟨rfl, ho110⟩
    have hz114 := ho110.size
    replace hL0 := hL0.ext ho110
    replace hE := hE.step ho110 (.inl (Nat.le_refl _))
    replace hX := hX.ext ho110
    replace hY := hY.ext ho110
    replace hS := hS.ext ho110
    refine st (asB rfl) ?_
    refine rg_end ?_
    refine n_then ?_
    refine wp_ret ?_
    refine ret1 (v := (.bool _)) Try.results9 rfl ?_
    exact ⟨rfl, hE⟩

set_option maxHeartbeats 2000000 in
set_option maxRecDepth 100000 in
theorem law32_InterlockSafe_ok (a0 : Option Addr) (c0 : Nat) (l0 : List Int) (w : World) (hL0 : Ints 0 w.heap.size w a0 l0) (hl0 : (l0.length : Int) ≤ 9223372036854775807) : Cal Try.prog 4 [.slice a0 l0.length c0] w (fun v w' => v = .bool true ∧ Ext w w') := by
  have hE : Out 0 0 w w := Out.refl _ _ w
  refine enter Try.func4 rfl Try.ntmps4 rfl ?_
  refine wp_seq ?_
  refine rg ?_
  refine st (asB rfl) ?_
  refine rg_end ?_
  refine n_then ?_
  refine wp_seq ?_
  refine rg ?_
  refine st (mvS rfl) ?_
  refine sc cl12 (keep_From_ok _ _ _ _ _ _ hL0 hl0) rfl ?_
  rintro v5 w1 ⟨bs, rfl, hbs, hzs, hS, ho2⟩
  have hbs0 := hbs
  have hz6 := ho2.size
  replace hL0 := hL0.ext ho2
  replace hE := hE.step ho2 (.inl (Nat.le_refl _))
  refine st (asP rfl) ?_
  refine rg_end ?_
  refine n_then ?_
  refine wp_seq ?_
  refine rg ?_
  refine st (mvP rfl) ?_
  refine sc cl15 (law32_flanks_ok _ _ _ _ hS (by omega) (by omega)) rfl ?_
  rintro v11 w7 ⟨af, cf, fl, rfl, hmd, hF, hS, ho8⟩
  have hfl5 := hmd.len
  have hcf := hF.lenLe
  obtain ⟨lf, hf_, hlf, hhf, hF⟩ := owNamed hF
  have hz12 := ho8.size
  replace hL0 := hL0.out ho8 (by first | omega | (simp only [blk_some, hi1_some] at *; omega))
  replace hE := hE.step ho8 (by first | omega | (simp only [blk_some, hi1_some] at *; omega))
  refine st (asS rfl) ?_
  refine rg_end ?_
  refine n_then ?_
  refine wp_seq ?_
  refine rg ?_
  refine st (mvS rfl) ?_
  refine sc cl10 (ilk_New_ok 6 fl _ _ _ _ _ (Ow.sl hF) hcf (by omega)) rfl ?_
  rintro v17 w13 ⟨p, e, rfl, he, hp0, hp1, ho14⟩
  obtain rfl : e = 0 := he.trans hmd.new
  obtain ⟨bx, rfl, hX⟩ := hp1 rfl
  obtain ⟨lx, hx, hlx, hhx, hX⟩ := hX.named
  have hI0 : IsOk (initS (6 : Int).toNat fl) := initS_ok hmd.new
  have hxr := hX.rng
  have hz18 := ho14.size
  replace hL0 := hL0.ext ho14
  replace hE := hE.step ho14 (.inl (Nat.le_refl _))
  replace hS := hS.ext ho14
  replace hF := hF.ext ho14
  refine st (mvT rfl) ?_
  refine st (y_ext rfl rfl) ?_
  refine st (y_ext rfl rfl) ?_
  refine st (asP rfl) ?_
  refine st (asI rfl) ?_
  refine rg_end ?_
  refine n_then ?_
  refine wp_seq ?_
  refine rg ?_
  refine st (mvS rfl) ?_
  refine sc cl11 (rlk_New_ok 6 fl _ _ _ _ _ (Ow.sl hF) hcf (by omega)) rfl ?_
  rintro v23 w19 ⟨p', e', rfl, he', hp0', hp1', ho20⟩
  obtain rfl : e' = 0 := he'.trans hmd.new
  obtain ⟨yb, rfl, hY⟩ := hp1' rfl
  obtain ⟨ly, hy, hly, hhy, hY⟩ := hY.named
  have hyr := hY.rng
  have hz24 := ho20.size
  replace hL0 := hL0.ext ho20
  replace hE := hE.step ho20 (.inl (Nat.le_refl _))
  replace hS := hS.ext ho20
  replace hF := hF.ext ho20
  replace hX := hX.ext ho20
  refine st (mvT rfl) ?_
  refine st (y_ext rfl rfl) ?_
  refine st (y_ext rfl rfl) ?_
  refine st (asP rfl) ?_
  refine st (asI rfl) ?_
  refine rg_end ?_
  refine n_then ?_
  refine wp_seq ?_
  refine wp_seq ?_
  refine rg ?_
  refine st (mvI rfl) ?_
  refine st (y_neq rfl rfl) ?_
  refine st (mvB rfl) ?_
  refine stg rfl rfl (by decide) (mvP rfl) ?_
  refine stg rfl rfl (by decide) (y_nilP ptr24 rfl rfl) ?_
  refine st (y_pickF rfl (by decide) (v := .bool _) rfl) ?_
  refine st (mvB rfl) ?_
  refine stg rfl rfl (show (some (⟨bx, 0, none⟩ : Addr)).isNone = false from rfl) (mvP rfl) ?_
  refine stg rfl rfl (show (some (⟨bx, 0, none⟩ : Addr)).isNone = false from rfl) (y_nilP ptr28 rfl rfl) ?_
  refine st (y_pickF rfl (show (some (⟨bx, 0, none⟩ : Addr)).isNone = false from rfl) (v := .bool _) rfl) ?_
  refine rg_end ?_
  refine n_then ?_
  refine cnd rfl (fun hc0 => absurd ((show (some (⟨yb, 0, none⟩ : Addr)).isNone = false from rfl).symm.trans hc0) (by decide)) (fun hc0 => ?_)
  refine wp_skip ?_
  refine n_then ?_
  refine wp_seq ?_
  refine wp_seq ?_
  refine rg ?_
  refine st (asI rfl) ?_
  refine rg_end ?_
  refine n_then ?_
  refine wp_block ?_
  have hFs := hF.sl
  refine lp (γ := Nat × IS) [2, 9, 10, 11, 12, 13, 15, 40, 41, 42, 43, 44, 45, 46, 47, 48, 49, 50, 51, 52, 53, 54, 55, 56, 57, 58, 59, 60, 61, 62, 63, 64, 65, 66, 67, 68, 69, 70, 71, 72, 73, 74, 75, 76, 77, 78, 79, 80, 81, 82, 83, 84, 85, 86, 87, 88, 89, 90, 91, 92, 93, 94, 95, 96, 97, 98, 99, 100, 101, 102, 103, 104, 105, 106, 107, 108, 109, 110] (fun ⟨k, S⟩ => [(9, .int .i64 (k : Int))]) (fun ⟨k, S⟩ w_ => Out bs hy w19 w_ ∧ (k : Int) ≤ 40 ∧ IsOk S ∧ Ilk lx hx bx w_ S ∧ Rlk ly hy yb w_ S ∧ Src 0 w.heap.size bs w_ ∧ SafeI S ∧ S.fl = fl ∧ S.rs.length = 6 ∧ Sl encFk 3 lf hf_ w_ af fl) (fun ⟨k, S⟩ => 40 - k) (0, initS (6 : Int).toNat fl) ⟨rfl, trivial⟩ ⟨Out.refl _ _ _, by decide, hI0, hX, hY, hS, safe_init hI0, rfl, by simp [initS], hFs⟩ ?_
  rintro ⟨k, S⟩ hav_ w25 ⟨ho26, hk, hI, hX, hY, hS, hsafe, hfl, hrl, hFs⟩
  have hlp0 := ho26
  have hz27 := ho26.size
  replace hL0 := hL0.out ho26 (by first | omega | (simp only [blk_some, hi1_some] at *; omega))
  replace hE := hE.step ho26 (by first | omega | (simp only [blk_some, hi1_some] at *; omega))
  refine wp_seq ?_
  refine wp_seq ?_
  refine rg ?_
  refine st (mvI rfl) ?_
  refine st (y_lss rfl rfl) ?_
  refine st (mvB rfl) ?_
  refine gspL 42 rfl (fun hg28 => ?_) (fun hg28 => ?_)
  ·
    have hg28n := hg28; try simp only [decide_eq_true_eq, decide_eq_false_iff_not, Bool.not_eq_true', Bool.not_eq_false', Bool.and_eq_true, Bool.or_eq_true, Bool.or_eq_false_iff, Bool.cond_true_right, Bool.cond_false_right, Bool.cond_true_left, Bool.cond_false_left, ne_eq, Decidable.not_not, bne_iff_ne, beq_iff_eq, beq_eq_false_iff_ne, Bool.not_true, Bool.not_false] at hg28n
    refine stg rfl rfl hg28 (mvP rfl) ?_
    refine scg rfl rfl hg28 cl16 (keep_Left_ok _ _ _ _ hS) rfl ?_
    rintro v33 w29 ⟨q32, rfl, ho30⟩
    have hz34 := ho30.size
    replace hL0 := hL0.ext ho30
    replace hE := hE.step ho30 (.inl (Nat.le_refl _))
    replace hX := hX.ext ho30
    replace hY := hY.ext ho30
    replace hS := hS.ext ho30
    replace hFs := hFs.ext ho30
    replace hlp0 := hlp0.step ho30 (.inl (Nat.le_refl _))
    refine st (y_pickT rfl hg28 (v := .bool _) rfl) ?_
    refine rg_end ?_
    refine n_then ?_
    refine cnd rfl (fun hc1 => ?_) (fun hc1 => ?_)
    ·
      try simp only [decide_eq_true_eq, decide_eq_false_iff_not, Bool.not_eq_true', Bool.not_eq_false', Bool.and_eq_true, Bool.or_eq_true, Bool.or_eq_false_iff, Bool.cond_true_right, Bool.cond_false_right, Bool.cond_true_left, Bool.cond_false_left, ne_eq, Decidable.not_not, bne_iff_ne, beq_iff_eq, beq_eq_false_iff_ne, Bool.not_true, Bool.not_false] at hc1
      refine wp_skip ?_
      refine n_then ?_
      refine wp_seq ?_
      refine wp_block ?_
      refine wp_seq ?_
      refine rg ?_
      refine sd (d_allocR (sz := 1) (m := 6) (lo := hy) (enc := encI) (e0 := (0 : Int)) zerR39 zerC39 (fun _ => rfl) (by unfold maxLen; omega) (by omega) ?_)
      intro bA w35 hbbA hs37 ho36 hA
      have hz39 := ho36.size
      replace hL0 := hL0.ext ho36
      replace hE := hE.step ho36 (.inl (Nat.le_refl _))
      replace hX := hX.ext ho36
      replace hY := hY.ext ho36
      replace hS := hS.ext ho36
      replace hFs := hFs.ext ho36
      replace hlp0 := hlp0.step ho36 (.inl (Nat.le_refl _))
      refine rg_end ?_
      refine n_then ?_
      refine wp_seq ?_
      refine rg ?_
      refine sd (d_allocR (sz := 1) (m := 6) (lo := hy) (enc := encB) (e0 := false) zerR40 zerC40 (fun _ => rfl) (by unfold maxLen; omega) (by omega) ?_)
      intro bB w40 hbbB hs42 ho41 hB
      have hz44 := ho41.size
      replace hL0 := hL0.ext ho41
      replace hE := hE.step ho41 (.inl (Nat.le_refl _))
      replace hX := hX.ext ho41
      replace hY := hY.ext ho41
      replace hS := hS.ext ho41
      replace hFs := hFs.ext ho41
      replace hlp0 := hlp0.step ho41 (.inl (Nat.le_refl _))
      replace hA := hA.ext ho41
      refine rg_end ?_
      refine n_then ?_
      refine wp_seq ?_
      refine wp_seq ?_
      refine rg ?_
      refine st (mvI rfl) ?_
      refine rg_end ?_
      refine n_then ?_
      refine wp_block ?_
      refine lp (γ := Nat × List Int × List Bool) [12, 48, 49, 50, 51, 52, 53, 54, 55, 56, 57, 58, 59, 60, 61, 62, 63, 64, 65, 66, 67, 68] (fun ⟨q, At, Bt⟩ => [(48, .int .i64 (q : Int))]) (fun ⟨q, At, Bt⟩ w_ => Out bA (bB + 1) w40 w_ ∧ q ≤ 6 ∧ At.length = 6 ∧ Bt.length = 6 ∧ (∀ p : Nat, p < q → el At p = position S p) ∧ (∀ p : Nat, p < q → el Bt p = decide (0 ≤ holder S p ∨ 0 < flk S p)) ∧ Ow 39 encI 1 hy (bA + 1) w_ (some ⟨bA, 0, none⟩) 6 At ∧ Ow 40 encB 1 hy (bB + 1) w_ (some ⟨bB, 0, none⟩) 6 Bt) (fun ⟨q, At, Bt⟩ => 6 - q) (0, List.replicate 6 0, List.replicate 6 false) ⟨rfl, trivial⟩ ⟨Out.refl _ _ _, by decide, rfl, rfl, (fun p hp => by omega), (fun p hp => by omega), hA, hB⟩ ?_
      rintro ⟨q, At, Bt⟩ hav_ w45 ⟨ho46, hq, hAl, hBl, hat, hbt, hA, hB⟩
      have hlp1 := ho46
      have hz47 := ho46.size
      replace hL0 := hL0.out ho46 (by first | omega | (simp only [blk_some, hi1_some] at *; omega))
      replace hE := hE.step ho46 (by first | omega | (simp only [blk_some, hi1_some] at *; omega))
      replace hX := hX.out ho46 (by first | omega | (simp only [blk_some, hi1_some] at *; omega))
      replace hY := hY.out ho46 (by first | omega | (simp only [blk_some, hi1_some] at *; omega))
      replace hS := hS.out ho46 (by first | omega | (simp only [blk_some, hi1_some] at *; omega))
      replace hFs := hFs.out ho46 (by first | omega | (simp only [blk_some, hi1_some] at *; omega))
      replace hlp0 := hlp0.step ho46 (by first | omega | (simp only [blk_some, hi1_some] at *; omega))
      refine wp_seq ?_
      refine rg ?_
      refine st (y_lss rfl rfl) ?_
      refine rg_end ?_
      refine n_then ?_
      refine wp_seq ?_
      refine cnd rfl (fun hc2 => ?_) (fun hc2 => ?_)
      ·
        try simp only [decide_eq_true_eq, decide_eq_false_iff_not, Bool.not_eq_true', Bool.not_eq_false', Bool.and_eq_true, Bool.or_eq_true, Bool.or_eq_false_iff, Bool.cond_true_right, Bool.cond_false_right, Bool.cond_true_left, Bool.cond_false_left, ne_eq, Decidable.not_not, bne_iff_ne, beq_iff_eq, beq_eq_false_iff_ne, Bool.not_true, Bool.not_false] at hc2
        refine wp_skip ?_
        refine n_then ?_
        refine wp_seq ?_
        refine wp_block ?_
        refine wp_seq ?_
        refine rg ?_
        refine st (mvI rfl) ?_
        refine st (asI rfl) ?_
        refine rg_end ?_
        refine n_then ?_
        refine rgD 17 (fun w_ => Out bA (bA + 1) w45 w_) (fun i => Nat.beq i 4 || Nat.beq i 7 || Nat.beq i 12 || Nat.beq i 16) mixed (by kernel_rfl) ?_
        intro w48 ho49 hs50
        refine ⟨ho49.wide (.inl (Nat.le_refl _)), ?_⟩
        have hx51 := ho49.wide (a' := bA) (b' := (bA + 1)) (.inl (Nat.le_refl _))
        replace hA := hA.ext ho49
        refine tn rfl (fun _ hG => mvI rfl) ?_
        refine tn rfl (fun _ hG => mvI rfl) ?_
        refine tn rfl (fun _ hG => mvP rfl) ?_
        refine tn rfl (fun _ hG => mvI rfl) ?_
        refine tc rfl cl17 (ilk_Position_ok S _ _ _ _ _ (hX.out hx51 (by omega)) hI) rfl ?_
        rintro v56 w52 ⟨rfl, ho53⟩
        have hx57 := hx51.step ho53 (.inl (Nat.le_refl _))
        have hz58 := ho53.size
        replace hA := hA.ext ho53
        refine ⟨hx57, ?_⟩
        refine tn rfl (fun _ hG => mvP rfl) ?_
        refine tn rfl (fun _ hG => mvI rfl) ?_
        refine tc rfl cl18 (ilk_Holder_ok S _ _ _ _ _ (hX.out hx57 (by omega)) hI) rfl ?_
        rintro v63 w59 ⟨rfl, ho60⟩
        have hx64 := hx57.step ho60 (.inl (Nat.le_refl _))
        have hz65 := ho60.size
        replace hA := hA.ext ho60
        refine ⟨hx64, ?_⟩
        refine tn rfl (fun _ hG => y_geq rfl rfl) ?_
        refine tn rfl (fun _ hG => mvB rfl) ?_
        refine gspT 60 rfl (fun hg66 => ?_) (fun hg66 => ?_)
        ·
          have hg66n := hg66; try simp only [decide_eq_true_eq, decide_eq_false_iff_not, Bool.not_eq_true', Bool.not_eq_false', Bool.and_eq_true, Bool.or_eq_true, Bool.or_eq_false_iff, Bool.cond_true_right, Bool.cond_false_right, Bool.cond_true_left, Bool.cond_false_left, ne_eq, Decidable.not_not, bne_iff_ne, beq_iff_eq, beq_eq_false_iff_ne, Bool.not_true, Bool.not_false] at hg66n
          have hbv : true = decide (0 ≤ holder S (q : Int) ∨ 0 < flk S (q : Int)) := by simp [hg66n]
          refine tns rfl rfl hg66 ?_
          refine tns rfl rfl hg66 ?_
          refine tns rfl rfl hg66 ?_
          refine tns rfl rfl hg66 ?_
          refine tn rfl (fun _ hG => y_pickT rfl hg66 (v := .bool _) rfl) ?_
          refine tn rfl (fun _ hG => y_ixR Try.underlying39 sz3 rfl rfl rfl (by omega) (by omega)) ?_
          refine td0 rfl (d_se (j := 0) (e' := position S (q : Int)) hA sz3 rfl rfl rfl (by omega) (by omega) (Nat.le_of_ble_eq_true rfl) rfl ?_)
          intro w67 hs69 ho68 hA'
          have hrhA := hA.rng
          clear hA; have hA := hA'; clear hA'
          have hx70 : Out bA (bA + 1) w45 w67 := hx64.step ho68 (by first | omega | (simp only [blk_some, hi1_some] at *; omega))
          have hz71 := ho68.size
          refine ⟨hx70, ?_⟩
          refine t_end ?_
          have hz72 := hx70.size
          replace hL0 := hL0.out hx70 (by first | omega | (simp only [blk_some, hi1_some] at *; omega))
          replace hE := hE.step hx70 (by first | omega | (simp only [blk_some, hi1_some] at *; omega))
          replace hX := hX.out hx70 (by first | omega | (simp only [blk_some, hi1_some] at *; omega))
          replace hY := hY.out hx70 (by first | omega | (simp only [blk_some, hi1_some] at *; omega))
          replace hS := hS.out hx70 (by first | omega | (simp only [blk_some, hi1_some] at *; omega))
          replace hFs := hFs.out hx70 (by first | omega | (simp only [blk_some, hi1_some] at *; omega))
          replace hlp0 := hlp0.step hx70 (by first | omega | (simp only [blk_some, hi1_some] at *; omega))
          have hrnhB := hB.rng
          replace hB := hB.out hx70 (by first | omega | (simp only [blk_some, hi1_some] at *; omega))
          replace hlp1 := hlp1.step hx70 (by first | omega | (simp only [blk_some, hi1_some] at *; omega))
          refine st (y_ixR Try.underlying40 sz4 rfl rfl rfl (by omega) (by omega)) ?_
          refine sd0 (d_se (j := 0)  hB sz4 rfl rfl rfl (by omega) (by omega) (Nat.le_of_ble_eq_true rfl) rfl ?_)
          intro w73 hs75 ho74 hB'
          have hrhB := hB.rng
          clear hB; have hB := hB'; clear hB'
          have hz76 := ho74.size
          replace hL0 := hL0.out ho74 (by first | omega | (simp only [blk_some, hi1_some] at *; omega))
          replace hE := hE.step ho74 (by first | omega | (simp only [blk_some, hi1_some] at *; omega))
          replace hX := hX.out ho74 (by first | omega | (simp only [blk_some, hi1_some] at *; omega))
          replace hY := hY.out ho74 (by first | omega | (simp only [blk_some, hi1_some] at *; omega))
          replace hS := hS.out ho74 (by first | omega | (simp only [blk_some, hi1_some] at *; omega))
          replace hFs := hFs.out ho74 (by first | omega | (simp only [blk_some, hi1_some] at *; omega))
          replace hlp0 := hlp0.step ho74 (by first | omega | (simp only [blk_some, hi1_some] at *; omega))
          have hrnhA := hA.rng
          replace hA := hA.out ho74 (by first | omega | (simp only [blk_some, hi1_some] at *; omega))
          replace hlp1 := hlp1.step ho74 (by first | omega | (simp only [blk_some, hi1_some] at *; omega))
          refine rg_end ?_
          refine n_blk ?_
          refine n_then ?_
          refine rg ?_
          refine st (y_add rfl rfl (by omega)) ?_
          refine st (mvI rfl) ?_
          refine rg_end ?_
          exact n_then ⟨(q + 1, _, _), _, rfl, same_lk rfl (same_h0), ⟨rfl, trivial⟩, ⟨hlp1, by omega, by simp [hAl], by simp [hBl], arr_step (f := fun i => position S i) hAl (by omega) hat rfl, arr_step (f := fun i => decide (0 ≤ holder S i ∨ 0 < flk S i)) hBl (by omega) hbt hbv, hA, hB⟩, by first | omega | (dsimp only; omega)⟩
        ·
          have hg66n := hg66; try simp only [decide_eq_true_eq, decide_eq_false_iff_not, Bool.not_eq_true', Bool.not_eq_false', Bool.and_eq_true, Bool.or_eq_true, Bool.or_eq_false_iff, Bool.cond_true_right, Bool.cond_false_right, Bool.cond_true_left, Bool.cond_false_left, ne_eq, Decidable.not_not, bne_iff_ne, beq_iff_eq, beq_eq_false_iff_ne, Bool.not_true, Bool.not_false] at hg66n
          have hbv : decide (0 < flk S (q : Int)) = decide (0 ≤ holder S (q : Int) ∨ 0 < flk S (q : Int)) := by simp [hg66n]
          refine tng rfl rfl rfl hg66 (fun _ hG => mvP rfl) ?_
          refine tng rfl rfl rfl hg66 (fun _ hG => mvI rfl) ?_
          refine tcg rfl rfl rfl hg66 cl19 (ilk_Flanks_ok S _ _ _ _ _ (hX.out hx64 (by omega)) hI) rfl ?_
          rintro v81 w77 ⟨rfl, ho78⟩
          have hx82 := hx64.step ho78 (.inl (Nat.le_refl _))
          have hz83 := ho78.size
          replace hA := hA.ext ho78
          refine ⟨hx82, ?_⟩
          refine tng rfl rfl rfl hg66 (fun _ hG => y_gtr rfl rfl) ?_
          refine tn rfl (fun _ hG => y_pickF rfl hg66 (v := .bool _) rfl) ?_
          refine tn rfl (fun _ hG => y_ixR Try.underlying39 sz3 rfl rfl rfl (by omega) (by omega)) ?_
          refine td0 rfl (d_se (j := 0) (e' := position S (q : Int)) hA sz3 rfl rfl rfl (by omega) (by omega) (Nat.le_of_ble_eq_true rfl) rfl ?_)
          intro w84 hs86 ho85 hA'
          have hrhA := hA.rng
          clear hA; have hA := hA'; clear hA'
          have hx87 : Out bA (bA + 1) w45 w84 := hx82.step ho85 (by first | omega | (simp only [blk_some, hi1_some] at *; omega))
          have hz88 := ho85.size
          refine ⟨hx87, ?_⟩
          refine t_end ?_
          have hz89 := hx87.size
          replace hL0 := hL0.out hx87 (by first | omega | (simp only [blk_some, hi1_some] at *; omega))
          replace hE := hE.step hx87 (by first | omega | (simp only [blk_some, hi1_some] at *; omega))
          replace hX := hX.out hx87 (by first | omega | (simp only [blk_some, hi1_some] at *; omega))
          replace hY := hY.out hx87 (by first | omega | (simp only [blk_some, hi1_some] at *; omega))
          replace hS := hS.out hx87 (by first | omega | (simp only [blk_some, hi1_some] at *; omega))
          replace hFs := hFs.out hx87 (by first | omega | (simp only [blk_some, hi1_some] at *; omega))
          replace hlp0 := hlp0.step hx87 (by first | omega | (simp only [blk_some, hi1_some] at *; omega))
          have hrnhB := hB.rng
          replace hB := hB.out hx87 (by first | omega | (simp only [blk_some, hi1_some] at *; omega))
          replace hlp1 := hlp1.step hx87 (by first | omega | (simp only [blk_some, hi1_some] at *; omega))
          refine st (y_ixR Try.underlying40 sz4 rfl rfl rfl (by omega) (by omega)) ?_
          refine sd0 (d_se (j := 0)  hB sz4 rfl rfl rfl (by omega) (by omega) (Nat.le_of_ble_eq_true rfl) rfl ?_)
          intro w90 hs92 ho91 hB'
          have hrhB := hB.rng
          clear hB; have hB := hB'; clear hB'
          have hz93 := ho91.size
          replace hL0 := hL0.out ho91 (by first | omega | (simp only [blk_some, hi1_some] at *; omega))
          replace hE := hE.step ho91 (by first | omega | (simp only [blk_some, hi1_some] at *; omega))
          replace hX := hX.out ho91 (by first | omega | (simp only [blk_some, hi1_some] at *; omega))
          replace hY := hY.out ho91 (by first | omega | (simp only [blk_some, hi1_some] at *; omega))
          replace hS := hS.out ho91 (by first | omega | (simp only [blk_some, hi1_some] at *; omega))
          replace hFs := hFs.out ho91 (by first | omega | (simp only [blk_some, hi1_some] at *; omega))
          replace hlp0 := hlp0.step ho91 (by first | omega | (simp only [blk_some, hi1_some] at *; omega))
          have hrnhA := hA.rng
          replace hA := hA.out ho91 (by first | omega | (simp only [blk_some, hi1_some] at *; omega))
          replace hlp1 := hlp1.step ho91 (by first | omega | (simp only [blk_some, hi1_some] at *; omega))
          refine rg_end ?_
          refine n_blk ?_
          refine n_then ?_
          refine rg ?_
          refine st (y_add rfl rfl (by omega)) ?_
          refine st (mvI rfl) ?_
          refine rg_end ?_
          exact n_then ⟨(q + 1, _, _), _, rfl, same_lk rfl (same_h0), ⟨rfl, trivial⟩, ⟨hlp1, by omega, by simp [hAl], by simp [hBl], arr_step (f := fun i => position S i) hAl (by omega) hat rfl, arr_step (f := fun i => decide (0 ≤ holder S i ∨ 0 < flk S i)) hBl (by omega) hbt hbv, hA, hB⟩, by first | omega | (dsimp only; omega)⟩
      ·
        try simp only [decide_eq_true_eq, decide_eq_false_iff_not, Bool.not_eq_true', Bool.not_eq_false', Bool.and_eq_true, Bool.or_eq_true, Bool.or_eq_false_iff, Bool.cond_true_right, Bool.cond_false_right, Bool.cond_true_left, Bool.cond_false_left, ne_eq, Decidable.not_not, bne_iff_ne, beq_iff_eq, beq_eq_false_iff_ne, Bool.not_true, Bool.not_false] at hc2
        have hq6 : q = 6 := by omega
        subst hq6
        refine wp_exit ?_
        refine e_then (e_then (e_blk (?_)))
        refine n_then ?_
        refine wp_seq ?_
        refine wp_seq ?_
        refine rg ?_
        refine st (mvP rfl) ?_
        refine st (mvP rfl) ?_
        refine st (mvP rfl) ?_
        refine sc cl20 (law32_act_ok S lx hx bx ly hy yb _ _ bs bs _ hX hY hI hS (by omega) (by omega) (by omega) (by omega) (by omega)) rfl ?_
        rintro v98 w94 ⟨rfl, S', hst, hX, hY, hS, hK, ho95⟩
        have hI' := hst.ok hI
        replace hFs := Sl.kept hFs hK (by omega) (by omega)
        have hsm := hst.same
        have hsafe' := hst.safe hI hsafe
        have hz99 := ho95.size
        replace hL0 := hL0.out ho95 (by first | omega | (simp only [blk_some, hi1_some] at *; omega))
        replace hE := hE.step ho95 (by first | omega | (simp only [blk_some, hi1_some] at *; omega))
        replace hlp0 := hlp0.step ho95 (by first | omega | (simp only [blk_some, hi1_some] at *; omega))
        have hrnhA := hA.rng
        replace hA := hA.out ho95 (by first | omega | (simp only [blk_some, hi1_some] at *; omega))
        have hrnhB := hB.rng
        replace hB := hB.out ho95 (by first | omega | (simp only [blk_some, hi1_some] at *; omega))
        refine st (y_not rfl) ?_
        refine rg_end ?_
        refine n_then ?_
        refine cnd rfl (fun hc3 => absurd hc3 (by decide)) (fun hc3 => ?_)
        refine wp_skip ?_
        refine n_then ?_
        refine wp_seq ?_
        refine wp_seq ?_
        refine rg ?_
        refine st (mvI rfl) ?_
        refine rg_end ?_
        refine n_then ?_
        refine wp_block ?_
        refine lp (γ := Nat) [2, 13, 74, 75, 76, 77, 78, 79, 80, 81, 82, 83, 84, 85, 86, 87, 88, 89] (fun q => [(74, .int .i64 (q : Int))]) (fun q w_ => Ext w94 w_ ∧ q ≤ 6) (fun q => 6 - q) 0 ⟨rfl, trivial⟩ ⟨Out.refl _ _ _, by omega⟩ ?_
        rintro q hav_ w100 ⟨ho101, hq⟩
        have hlp2 := ho101
        have hz102 := ho101.size
        replace hL0 := hL0.ext ho101
        replace hE := hE.step ho101 (.inl (Nat.le_refl _))
        replace hX := hX.ext ho101
        replace hY := hY.ext ho101
        replace hS := hS.ext ho101
        replace hFs := hFs.ext ho101
        replace hlp0 := hlp0.step ho101 (.inl (Nat.le_refl _))
        replace hA := hA.ext ho101
        replace hB := hB.ext ho101
        refine wp_seq ?_
        refine rg ?_
        refine st (y_lss rfl rfl) ?_
        refine rg_end ?_
        refine n_then ?_
        refine wp_seq ?_
        refine cnd rfl (fun hc4 => ?_) (fun hc4 => ?_)
        ·
          try simp only [decide_eq_true_eq, decide_eq_false_iff_not, Bool.not_eq_true', Bool.not_eq_false', Bool.and_eq_true, Bool.or_eq_true, Bool.or_eq_false_iff, Bool.cond_true_right, Bool.cond_false_right, Bool.cond_true_left, Bool.cond_false_left, ne_eq, Decidable.not_not, bne_iff_ne, beq_iff_eq, beq_eq_false_iff_ne, Bool.not_true, Bool.not_false] at hc4
          have ha1 := hat q (by omega)
          have hb1 := hbt q (by omega)
          refine wp_skip ?_
          refine n_then ?_
          refine wp_seq ?_
          refine wp_block ?_
          refine wp_seq ?_
          refine rg ?_
          refine st (mvI rfl) ?_
          refine st (asI rfl) ?_
          refine rg_end ?_
          refine n_then ?_
          refine wp_seq ?_
          refine rgD 10 (fun w_ => Ext w100 w_) (fun i => Nat.beq i 6) mixed (by kernel_rfl) ?_
          intro w103 ho104 hs105
          refine ⟨ho104, ?_⟩
          have hx106 := ho104
          refine tn rfl (fun _ hG => mvI rfl) ?_
          refine tn rfl (fun _ hG => y_ixR Try.underlying40 sz4 rfl rfl rfl (by omega) (by omega)) ?_
          refine tn rfl (fun _ hG => y_le (hB.ext hG).sl na4 rfl (by omega) (by omega) rfl) ?_
          refine tn rfl (fun _ hG => mvB rfl) ?_
          refine gspT 80 rfl (fun hg107 => ?_) (fun hg107 => ?_)
          ·
            have hg107n := hg107; try simp only [decide_eq_true_eq, decide_eq_false_iff_not, Bool.not_eq_true', Bool.not_eq_false', Bool.and_eq_true, Bool.or_eq_true, Bool.or_eq_false_iff, Bool.cond_true_right, Bool.cond_false_right, Bool.cond_true_left, Bool.cond_false_left, ne_eq, Decidable.not_not, bne_iff_ne, beq_iff_eq, beq_eq_false_iff_ne, Bool.not_true, Bool.not_false] at hg107n
            have hpf : position S' (q : Int) = el At (q : Int) := by rw [ha1]; exact pos_fixed hst hI (by omega) (by omega) (by rw [hb1] at hg107n; simpa using hg107n)
            refine tng rfl rfl rfl hg107 (fun _ hG => mvP rfl) ?_
            refine tng rfl rfl rfl hg107 (fun _ hG => mvI rfl) ?_
            refine tcg rfl rfl rfl hg107 cl17 (ilk_Position_ok S' _ _ _ _ _ (hX.ext hx106) hI') rfl ?_
            rintro v112 w108 ⟨rfl, ho109⟩
            have hx113 := hx106.step ho109 (.inl (Nat.le_refl _))
            have hz114 := ho109.size
            refine ⟨hx113, ?_⟩
            refine tng rfl rfl rfl hg107 (fun _ hG => mvI rfl) ?_
            refine tng rfl rfl rfl hg107 (fun _ hG => y_ixR Try.underlying39 sz3 rfl rfl rfl (by omega) (by omega)) ?_
            refine tng rfl rfl rfl hg107 (fun _ hG => y_le (hA.ext hG).sl na3 rfl (by omega) (by omega) rfl) ?_
            refine t_end ?_
            have hz115 := hx113.size
            replace hL0 := hL0.ext hx113
            replace hE := hE.step hx113 (.inl (Nat.le_refl _))
            replace hX := hX.ext hx113
            replace hY := hY.ext hx113
            replace hS := hS.ext hx113
            replace hFs := hFs.ext hx113
            replace hlp0 := hlp0.step hx113 (.inl (Nat.le_refl _))
            replace hA := hA.ext hx113
            replace hB := hB.ext hx113
            replace hlp2 := hlp2.step hx113 (.inl (Nat.le_refl _))
            refine stg rfl rfl hg107 (y_neq rfl rfl) ?_
            refine st (y_pickT rfl hg107 (v := .bool _) rfl) ?_
            refine rg_end ?_
            refine n_then ?_
            refine cnd rfl (fun hc5 => absurd ((decide_eq_false (not_not_intro hpf)).symm.trans hc5) (by decide)) (fun hc5 => ?_)
            refine wp_skip ?_
            refine n_blk ?_
            refine n_then ?_
            refine rg ?_
            refine st (y_add rfl rfl (by omega)) ?_
            refine st (mvI rfl) ?_
            refine rg_end ?_
            exact n_then ⟨q + 1, _, rfl, same_lk rfl (same_h0), ⟨rfl, trivial⟩, ⟨hlp2, by omega⟩, by first | omega | (dsimp only; omega)⟩
          ·
            have hg107n := hg107; try simp only [decide_eq_true_eq, decide_eq_false_iff_not, Bool.not_eq_true', Bool.not_eq_false', Bool.and_eq_true, Bool.or_eq_true, Bool.or_eq_false_iff, Bool.cond_true_right, Bool.cond_false_right, Bool.cond_true_left, Bool.cond_false_left, ne_eq, Decidable.not_not, bne_iff_ne, beq_iff_eq, beq_eq_false_iff_ne, Bool.not_true, Bool.not_false] at hg107n
            refine tns rfl rfl hg107 ?_
            refine tns rfl rfl hg107 ?_
            refine tns rfl rfl hg107 ?_
            refine tns rfl rfl hg107 ?_
            refine tns rfl rfl hg107 ?_
            refine tns rfl rfl hg107 ?_
            refine t_end ?_
            have hz116 := hx106.size
            replace hL0 := hL0.ext hx106
            replace hE := hE.step hx106 (.inl (Nat.le_refl _))
            replace hX := hX.ext hx106
            replace hY := hY.ext hx106
            replace hS := hS.ext hx106
            replace hFs := hFs.ext hx106
            replace hlp0 := hlp0.step hx106 (.inl (Nat.le_refl _))
            replace hA := hA.ext hx106
            replace hB := hB.ext hx106
            replace hlp2 := hlp2.step hx106 (.inl (Nat.le_refl _))
            refine sts rfl rfl hg107 ?_
            refine st (y_pickF rfl hg107 (v := .bool _) rfl) ?_
            refine rg_end ?_
            refine n_then ?_
            refine cnd rfl (fun hc5 => absurd hc5 (by decide)) (fun hc5 => ?_)
            refine wp_skip ?_
            refine n_blk ?_
            refine n_then ?_
            refine rg ?_
            refine st (y_add rfl rfl (by omega)) ?_
            refine st (mvI rfl) ?_
            refine rg_end ?_
            exact n_then ⟨q + 1, _, rfl, same_lk rfl (same_h0), ⟨rfl, trivial⟩, ⟨hlp2, by omega⟩, by first | omega | (dsimp only; omega)⟩
        ·
          try simp only [decide_eq_true_eq, decide_eq_false_iff_not, Bool.not_eq_true', Bool.not_eq_false', Bool.and_eq_true, Bool.or_eq_true, Bool.or_eq_false_iff, Bool.cond_true_right, Bool.cond_false_right, Bool.cond_true_left, Bool.cond_false_left, ne_eq, Decidable.not_not, bne_iff_ne, beq_iff_eq, beq_eq_false_iff_ne, Bool.not_true, Bool.not_false] at hc4
          refine wp_exit ?_
          refine e_then (e_then (e_blk (?_)))
          refine n_then ?_
          refine wp_seq ?_
          refine rg ?_
          refine st (mvS rfl) ?_
          refine st (y_len Try.underlying22 rfl) ?_
          refine st (mvI rfl) ?_
          refine rg_end ?_
          refine n_then ?_
          refine wp_block ?_
          refine lp (γ := Nat) [2, 15, 92, 93, 94, 95, 96, 97, 98, 99, 100, 101, 102, 103, 104, 105, 106, 107, 108, 109, 110] (fun q => [(92, .int .i64 (q : Int))]) (fun q w_ => Ext w100 w_ ∧ (q : Int) ≤ fl.length) (fun q => fl.length - q) 0 ⟨rfl, trivial⟩ ⟨Out.refl _ _ _, by omega⟩ ?_
          rintro q hav_ w117 ⟨ho118, hq⟩
          have hlp3 := ho118
          have hz119 := ho118.size
          replace hL0 := hL0.ext ho118
          replace hE := hE.step ho118 (.inl (Nat.le_refl _))
          replace hX := hX.ext ho118
          replace hY := hY.ext ho118
          replace hS := hS.ext ho118
          replace hFs := hFs.ext ho118
          replace hlp0 := hlp0.step ho118 (.inl (Nat.le_refl _))
          replace hA := hA.ext ho118
          replace hB := hB.ext ho118
          refine wp_seq ?_
          refine rg ?_
          refine st (y_lss rfl rfl) ?_
          refine rg_end ?_
          refine n_then ?_
          refine wp_seq ?_
          refine cnd rfl (fun hc6 => ?_) (fun hc6 => ?_)
          ·
            try simp only [decide_eq_true_eq, decide_eq_false_iff_not, Bool.not_eq_true', Bool.not_eq_false', Bool.and_eq_true, Bool.or_eq_true, Bool.or_eq_false_iff, Bool.cond_true_right, Bool.cond_false_right, Bool.cond_true_left, Bool.cond_false_left, ne_eq, Decidable.not_not, bne_iff_ne, beq_iff_eq, beq_eq_false_iff_ne, Bool.not_true, Bool.not_false] at hc6
            have hfm : el fl (q : Int) ∈ S'.fl := by rw [hsm.1, hfl]; exact el_mem (by omega) hc6
            refine wp_skip ?_
            refine n_then ?_
            refine wp_seq ?_
            refine wp_block ?_
            refine wp_seq ?_
            refine rg ?_
            refine st (y_ix hFs sl22 rfl (rfl) rfl (by omega) (by omega)) ?_
            refine st (y_lw hFs agg35 rfl (by omega) (by omega)) ?_
            refine sd (d_allocA zer35 ?_)
            intro b15 w120 hbb15 hs122 ho121 hb15
            have hz123 := ho121.size
            replace hL0 := hL0.ext ho121
            replace hE := hE.step ho121 (.inl (Nat.le_refl _))
            replace hX := hX.ext ho121
            replace hY := hY.ext ho121
            replace hS := hS.ext ho121
            replace hFs := hFs.ext ho121
            replace hlp0 := hlp0.step ho121 (.inl (Nat.le_refl _))
            replace hA := hA.ext ho121
            replace hB := hB.ext ho121
            replace hlp3 := hlp3.step ho121 (.inl (Nat.le_refl _))
            refine sd0 (d_stN hb15 rfl rfl sz35 rfl rfl ?_)
            intro w124 hs126 ho125 hb15'
            clear hb15; have hb15 := hb15'; clear hb15'
            have hz127 := ho125.size
            replace hL0 := hL0.out ho125 (by first | omega | (simp only [blk_some, hi1_some] at *; omega))
            replace hE := hE.step ho125 (by first | omega | (simp only [blk_some, hi1_some] at *; omega))
            replace hX := hX.out ho125 (by first | omega | (simp only [blk_some, hi1_some] at *; omega))
            replace hY := hY.out ho125 (by first | omega | (simp only [blk_some, hi1_some] at *; omega))
            replace hS := hS.out ho125 (by first | omega | (simp only [blk_some, hi1_some] at *; omega))
            replace hFs := hFs.out ho125 (by first | omega | (simp only [blk_some, hi1_some] at *; omega))
            replace hlp0 := hlp0.step ho125 (by first | omega | (simp only [blk_some, hi1_some] at *; omega))
            replace hA := hA.out ho125 (by first | omega | (simp only [blk_some, hi1_some] at *; omega))
            replace hB := hB.out ho125 (by first | omega | (simp only [blk_some, hi1_some] at *; omega))
            replace hlp3 := hlp3.step ho125 (by first | omega | (simp only [blk_some, hi1_some] at *; omega))
            refine rg_end ?_
            refine n_then ?_
            refine wp_seq ?_
            refine rgD 12 (fun w_ => Ext w124 w_) (fun i => Nat.beq i 3 || Nat.beq i 9) mixed (by kernel_rfl) ?_
            intro w128 ho129 hs130
            refine ⟨ho129, ?_⟩
            have hx131 := ho129
            refine tn rfl (fun _ hG => mvP rfl) ?_
            refine tn rfl (fun _ hG => y_fld fld35_0 rfl) ?_
            refine tn rfl (fun _ hG => y_lb (hb15.ext hG) na3 rfl rfl) ?_
            refine tc rfl cl18 (ilk_Holder_ok S' _ _ _ _ _ (hX.ext hx131) hI') rfl ?_
            rintro v136 w132 ⟨rfl, ho133⟩
            have hx137 := hx131.step ho133 (.inl (Nat.le_refl _))
            have hz138 := ho133.size
            refine ⟨hx137, ?_⟩
            refine tn rfl (fun _ hG => y_geq rfl rfl) ?_
            refine tn rfl (fun _ hG => mvB rfl) ?_
            refine gspT 101 rfl (fun hg139 => ?_) (fun hg139 => ?_)
            ·
              have hg139n := hg139; try simp only [decide_eq_true_eq, decide_eq_false_iff_not, Bool.not_eq_true', Bool.not_eq_false', Bool.and_eq_true, Bool.or_eq_true, Bool.or_eq_false_iff, Bool.cond_true_right, Bool.cond_false_right, Bool.cond_true_left, Bool.cond_false_left, ne_eq, Decidable.not_not, bne_iff_ne, beq_iff_eq, beq_eq_false_iff_ne, Bool.not_true, Bool.not_false] at hg139n
              have hsf := safe_pos hI' hsafe' hfm hg139n
              refine tng rfl rfl rfl hg139 (fun _ hG => mvP rfl) ?_
              refine tng rfl rfl rfl hg139 (fun _ hG => y_fld fld35_1 rfl) ?_
              refine tng rfl rfl rfl hg139 (fun _ hG => y_lb (hb15.ext hG) na3 rfl rfl) ?_
              refine tcg rfl rfl rfl hg139 cl17 (ilk_Position_ok S' _ _ _ _ _ (hX.ext hx137) hI') rfl ?_
              rintro v144 w140 ⟨rfl, ho141⟩
              have hx145 := hx137.step ho141 (.inl (Nat.le_refl _))
              have hz146 := ho141.size
              refine ⟨hx145, ?_⟩
              refine tng rfl rfl rfl hg139 (fun _ hG => y_fld fld35_2 rfl) ?_
              refine tng rfl rfl rfl hg139 (fun _ hG => y_lb (hb15.ext hG) na3 rfl rfl) ?_
              refine t_end ?_
              have hz147 := hx145.size
              replace hL0 := hL0.ext hx145
              replace hE := hE.step hx145 (.inl (Nat.le_refl _))
              replace hX := hX.ext hx145
              replace hY := hY.ext hx145
              replace hS := hS.ext hx145
              replace hFs := hFs.ext hx145
              replace hlp0 := hlp0.step hx145 (.inl (Nat.le_refl _))
              replace hA := hA.ext hx145
              replace hB := hB.ext hx145
              replace hlp3 := hlp3.step hx145 (.inl (Nat.le_refl _))
              replace hb15 := hb15.ext hx145
              refine stg rfl rfl hg139 (y_neq rfl rfl) ?_
              refine st (y_pickT rfl hg139 (v := .bool _) rfl) ?_
              refine rg_end ?_
              refine n_then ?_
              refine cnd rfl (fun hc7 => absurd ((decide_eq_false (not_not_intro hsf)).symm.trans hc7) (by decide)) (fun hc7 => ?_)
              refine wp_skip ?_
              refine n_blk ?_
              refine n_then ?_
              refine rg ?_
              refine st (y_add rfl rfl (by omega)) ?_
              refine st (mvI rfl) ?_
              refine rg_end ?_
              exact n_then ⟨q + 1, _, rfl, same_lk rfl (same_h0), ⟨rfl, trivial⟩, ⟨hlp3, by omega⟩, by first | omega | (dsimp only; omega)⟩
            ·
              have hg139n := hg139; try simp only [decide_eq_true_eq, decide_eq_false_iff_not, Bool.not_eq_true', Bool.not_eq_false', Bool.and_eq_true, Bool.or_eq_true, Bool.or_eq_false_iff, Bool.cond_true_right, Bool.cond_false_right, Bool.cond_true_left, Bool.cond_false_left, ne_eq, Decidable.not_not, bne_iff_ne, beq_iff_eq, beq_eq_false_iff_ne, Bool.not_true, Bool.not_false] at hg139n
              refine tns rfl rfl hg139 ?_
              refine tns rfl rfl hg139 ?_
              refine tns rfl rfl hg139 ?_
              refine tns rfl rfl hg139 ?_
              refine tns rfl rfl hg139 ?_
              refine tns rfl rfl hg139 ?_
              refine t_end ?_
              have hz148 := hx137.size
              replace hL0 := hL0.ext hx137
              replace hE := hE.step hx137 (.inl (Nat.le_refl _))
              replace hX := hX.ext hx137
              replace hY := hY.ext hx137
              replace hS := hS.ext hx137
              replace hFs := hFs.ext hx137
              replace hlp0 := hlp0.step hx137 (.inl (Nat.le_refl _))
              replace hA := hA.ext hx137
              replace hB := hB.ext hx137
              replace hlp3 := hlp3.step hx137 (.inl (Nat.le_refl _))
              replace hb15 := hb15.ext hx137
              refine sts rfl rfl hg139 ?_
              refine st (y_pickF rfl hg139 (v := .bool _) rfl) ?_
              refine rg_end ?_
              refine n_then ?_
              refine cnd rfl (fun hc7 => absurd hc7 (by decide)) (fun hc7 => ?_)
              refine wp_skip ?_
              refine n_blk ?_
              refine n_then ?_
              refine rg ?_
              refine st (y_add rfl rfl (by omega)) ?_
              refine st (mvI rfl) ?_
              refine rg_end ?_
              exact n_then ⟨q + 1, _, rfl, same_lk rfl (same_h0), ⟨rfl, trivial⟩, ⟨hlp3, by omega⟩, by first | omega | (dsimp only; omega)⟩
          ·
            try simp only [decide_eq_true_eq, decide_eq_false_iff_not, Bool.not_eq_true', Bool.not_eq_false', Bool.and_eq_true, Bool.or_eq_true, Bool.or_eq_false_iff, Bool.cond_true_right, Bool.cond_false_right, Bool.cond_true_left, Bool.cond_false_left, ne_eq, Decidable.not_not, bne_iff_ne, beq_iff_eq, beq_eq_false_iff_ne, Bool.not_true, Bool.not_false] at hc6
            refine wp_exit ?_
            refine e_then (e_then (e_blk (?_)))
            refine n_blk ?_
            refine n_then ?_
            refine rg ?_
            refine st (mvI rfl) ?_
            refine st (y_add rfl rfl (by omega)) ?_
            refine st (asI rfl) ?_
            refine rg_end ?_
            exact n_then ⟨(k + 1, S'), _, rfl, same_lk rfl (same_hav rfl (same_lk rfl (same_hav rfl (same_lk rfl (same_hav rfl (same_lk rfl (same_h0))))))), ⟨rfl, trivial⟩, ⟨hlp0, by omega, hI', hX, hY, hS, hsafe', hsm.1.trans hfl, hsm.2.trans hrl, hFs⟩, by first | omega | (dsimp only; omega)⟩
    ·
      try simp only [decide_eq_true_eq, decide_eq_false_iff_not, Bool.not_eq_true', Bool.not_eq_false', Bool.and_eq_true, Bool.or_eq_true, Bool.or_eq_false_iff, Bool.cond_true_right, Bool.cond_false_right, Bool.cond_true_left, Bool.cond_false_left, ne_eq, Decidable.not_not, bne_iff_ne, beq_iff_eq, beq_eq_false_iff_ne, Bool.not_true, Bool.not_false] at hc1
      refine wp_exit ?_
      refine e_then (e_then (e_blk (?_)))
      refine n_then ?_
      refine wp_seq ?_
      refine rg ?_
      refine sc cl14 (law32_awake_ok _) rfl ?_
      rintro v153 w149 ⟨rfl, ho150⟩
      have hz154 := ho150.size
      replace hL0 := hL0.ext ho150
      replace hE := hE.step ho150 (.inl (Nat.le_refl _))
      replace hX := hX.ext ho150
      replace hY := hY.ext ho150
      replace hS := hS.ext ho150
      replace hFs := hFs.ext ho150
      refine st (asB rfl) ?_
      refine rg_end ?_
      refine n_then ?_
      refine wp_ret ?_
      refine ret1 (v := (.bool _)) Try.results4 rfl ?_
      exact ⟨rfl, hE⟩
  ·
    have hg28n := hg28; try simp only [decide_eq_true_eq, decide_eq_false_iff_not, Bool.not_eq_true', Bool.not_eq_false', Bool.and_eq_true, Bool.or_eq_true, Bool.or_eq_false_iff, Bool.cond_true_right, Bool.cond_false_right, Bool.cond_true_left, Bool.cond_false_left, ne_eq, Decidable.not_not, bne_iff_ne, beq_iff_eq, beq_eq_false_iff_ne, Bool.not_true, Bool.not_false] at hg28n
    refine sts rfl rfl hg28 ?_
    refine sts rfl rfl hg28 ?_
    refine st (y_pickF rfl hg28 (v := .bool _) rfl) ?_
    refine rg_end ?_
    refine n_then ?_
    refine cnd rfl (fun hc1 => absurd hc1 (by decide)) (fun hc1 => ?_)
    refine wp_exit ?_
    refine e_then (e_then (e_blk (?_)))
    refine n_then ?_
    refine wp_seq ?_
    refine rg ?_
    refine sc cl14 (law32_awake_ok _) rfl ?_
    rintro v159 w155 ⟨rfl, ho156⟩
    have hz160 := ho156.size
    replace hL0 := hL0.ext ho156
    replace hE := hE.step ho156 (.inl (Nat.le_refl _))
    replace hX := hX.ext ho156
    replace hY := hY.ext ho156
    replace hS := hS.ext ho156
    replace hFs := hFs.ext ho156
    refine st (asB rfl) ?_
    refine rg_end ?_
    refine n_then ?_
    refine wp_ret ?_
    refine ret1 (v := (.bool _)) Try.results4 rfl ?_
    exact ⟨rfl, hE⟩
end Go.Proofs.Ytciljdhihnnfiaa
