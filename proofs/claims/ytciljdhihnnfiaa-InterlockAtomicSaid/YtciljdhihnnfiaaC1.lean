/-
  Walks of the functions, printed by a program out of the code and the loops' relations.
-/
import Derived.Test.YtciljdhihnnfiaaWkD
import Derived.Test.YtciljdhihnnfiaaProg
import Derived.KernelRfl
import Derived.Test.YtciljdhihnnfiaaIlk
import Derived.Test.YtciljdhihnnfiaaA4
import Derived.Test.YtciljdhihnnfiaaB1
namespace Go.Proofs.Ytciljdhihnnfiaa
open Go.Wk Go.RowKit
set_option linter.unusedVariables false
set_option linter.unusedSimpArgs false
theorem agg35 : AggOf Try.prog 35 3 := fun w => ⟨Try.isAgg35 w, Try.sizeOf35 w⟩
theorem agg45 : AggOf Try.prog 45 2 := fun w => ⟨Try.isAgg45 w, Try.sizeOf45 w⟩
theorem agg64 : AggOf Try.prog 64 4 := fun w => ⟨Try.isAgg64 w, Try.sizeOf64 w⟩
theorem bsl22_1 (a0_0 : Int) (a0_1 : Int) (a0_2 : Int) (w : World) : (Instr.buildSlice 22 1 [(0, (.agg #[(.int .i64 a0_0), (.int .i64 a0_1), (.int .i64 a0_2)]))].toArray).run Try.prog w = .ok (.slice (some ⟨w.heap.size, 0, none⟩) 1 1) (w.alloc (.cells [(.int .i64 a0_0), (.int .i64 a0_1), (.int .i64 a0_2)].toArray 35)) := by kernel_rfl
theorem cl19 : Callable Try.prog 19 := ⟨Try.call19⟩
theorem fld35_0 : FieldOf Try.prog 35 0 0 := fun b o w => by simp [Instr.fieldAt, fieldPlace, Instr.sureAddr, Addr.add_lit]
theorem fld35_1 : FieldOf Try.prog 35 1 1 := fun b o w => by simp [Instr.fieldAt, fieldPlace, Instr.sureAddr, Addr.add_lit]
theorem fld35_2 : FieldOf Try.prog 35 2 2 := fun b o w => by simp [Instr.fieldAt, fieldPlace, Instr.sureAddr, Addr.add_lit]
theorem fld45_0 : FieldOf Try.prog 45 0 0 := fun b o w => by simp [Instr.fieldAt, fieldPlace, Instr.sureAddr, Addr.add_lit]
theorem fld45_1 : FieldOf Try.prog 45 1 1 := fun b o w => by simp [Instr.fieldAt, fieldPlace, Instr.sureAddr, Addr.add_lit]
theorem fld62_0 : FieldOf Try.prog 62 0 0 := fun b o w => by simp [Instr.fieldAt, fieldPlace, Instr.sureAddr, Addr.add_lit]
theorem fld62_1 : FieldOf Try.prog 62 1 1 := fun b o w => by simp [Instr.fieldAt, fieldPlace, Instr.sureAddr, Addr.add_lit]
theorem fld64_0 : FieldOf Try.prog 64 0 0 := fun b o w => by simp [Instr.fieldAt, fieldPlace, Instr.sureAddr, Addr.add_lit]
theorem fld64_1 : FieldOf Try.prog 64 1 1 := fun b o w => by simp [Instr.fieldAt, fieldPlace, Instr.sureAddr, Addr.add_lit]
theorem fld64_2 : FieldOf Try.prog 64 2 2 := fun b o w => by simp [Instr.fieldAt, fieldPlace, Instr.sureAddr, Addr.add_lit]
theorem fld64_3 : FieldOf Try.prog 64 3 3 := fun b o w => by simp [Instr.fieldAt, fieldPlace, Instr.sureAddr, Addr.add_lit]
set_option maxRecDepth 100000 in
theorem info3 : ∃ i, Try.prog.info? 3 = some i ∧ i.zero = some (.int .i64 0) ∧ i.size = 1 ∧ i.bytes = 8 := ⟨Try.t3, Try.type3, rfl, rfl, rfl⟩
set_option maxRecDepth 100000 in
theorem info4 : ∃ i, Try.prog.info? 4 = some i ∧ i.zero = some (.bool false) ∧ i.size = 1 ∧ i.bytes = 1 := ⟨Try.t4, Try.type4, rfl, rfl, rfl⟩
set_option maxRecDepth 100000 in
theorem infoz35 : ∃ i, Try.prog.info? 35 = some i ∧ i.zero = some (.agg #[.int .i64 0, .int .i64 0, .int .i64 0]) ∧ i.size = 3 ∧ i.bytes = 24 ∧ (Value.cells (.agg #[.int .i64 0, .int .i64 0, .int .i64 0])).size = 3 := ⟨Try.t35, Try.type35, rfl, rfl, rfl, rfl⟩
theorem na22 : NotAgg Try.prog 22 := Try.isAgg22
theorem na4 : NotAgg Try.prog 4 := Try.isAgg4
theorem na59 : NotAgg Try.prog 59 := Try.isAgg59
theorem sl22 : SliceOf Try.prog 22 35 3 := ⟨Try.underlying22, Try.sizeOf35⟩
theorem sl46 : SliceOf Try.prog 46 45 2 := ⟨Try.underlying46, Try.sizeOf45⟩
theorem sl59 : SliceOf Try.prog 59 64 4 := ⟨Try.underlying59, Try.sizeOf64⟩
theorem sl65 : SliceOf Try.prog 65 4 1 := ⟨Try.underlying65, Try.sizeOf4⟩
theorem sz35 : SzOf Try.prog 35 3 := Try.sizeOf35
theorem sz4 : SzOf Try.prog 4 1 := Try.sizeOf4
theorem sz45 : SzOf Try.prog 45 2 := Try.sizeOf45
theorem sz64 : SzOf Try.prog 64 4 := Try.sizeOf64
theorem zer35 : ZeroOf Try.prog 35 (.agg [.int .i64 0, .int .i64 0, .int .i64 0].toArray) := Try.zeroValue35
theorem zer45 : ZeroOf Try.prog 45 (.agg [.int .i64 0, .int .i64 0].toArray) := Try.zeroValue45
theorem zer64 : ZeroOf Try.prog 64 (.agg [.int .i64 0, .int .i64 0, .int .i64 0, .bool false].toArray) := Try.zeroValue64

/-- The interlocking at block 'b': its blocks lie in [lo, hi). -/
structure Ilk (lo hi b : Nat) (w : World) (S : IS) : Prop where
  ex : ∃ ar cr af cf l2 h2, Blk w b [.slice ar S.rs.length cr, .slice af S.fl.length cf] ∧ Ow 64 encRs 4 lo hi w ar cr S.rs ∧ Sl encFk 3 l2 h2 w af S.fl ∧ lo ≤ l2 ∧ h2 ≤ hi ∧ lo ≤ b ∧ b < hi ∧ hi ≤ w.heap.size ∧ (b < blk ar ∨ hi1 ar ≤ b) ∧ (h2 ≤ blk ar ∨ hi1 ar ≤ l2)
theorem Ilk.out {lo hi b : Nat} {w w' : World} {S : IS} {a c : Nat} (h : Ilk lo hi b w S) (ho : Out a c w w') (hs : hi ≤ a ∨ c ≤ lo ∨ c ≤ a) : Ilk lo hi b w' S := by
  obtain ⟨ar, cr, af, cf, l2, h2, hb, hr, hf, h1, h3, h4, h5, h6, h7, h8⟩ := h.ex
  have hrn := hr.rng
  have := ho.size
  exact ⟨ar, cr, af, cf, l2, h2, hb.out ho (by omega), hr.out ho (by omega), hf.out ho (by omega), h1, h3, h4, h5, by omega, h7, h8⟩
theorem Ilk.ext {lo hi b : Nat} {w w' : World} {S : IS} (h : Ilk lo hi b w S) (ho : Ext w w') : Ilk lo hi b w' S := h.out ho (.inr (.inr (Nat.le_refl _)))
theorem fill_step {n k : Nat} {l : List Int} {v : Int} (hl : l.length = n) (hk : k < n) (h : ∀ p : Nat, p < k → el l p = v) : ∀ p : Nat, p < k + 1 → el (l.set (k : Int).toNat v) p = v := by
  intro p hp
  by_cases e : p = k
  · subst e; exact el_set_same (by omega) (by omega)
  · rw [el_set_ne (by omega) (by omega) (by omega)]; exact h p (by omega)
theorem fill_rep {n : Nat} {l : List Int} {v : Int} (hl : l.length = n) (h : ∀ p : Nat, p < n → el l p = v) : Rep l (fun _ => v) := by
  intro i h0 h1
  have := h i.toNat (by omega)
  rwa [Int.toNat_of_nonneg h0] at this

set_option maxRecDepth 100000 in
theorem interlock_isTrain_ok (t : Int) (w : World) : Cal Try.prog 36 [.int .i64 t] w (fun v w' => v = .bool (okT t) ∧ Ext w w') := by
  have hE : Out 0 0 w w := Out.refl _ _ w
  refine enter Try.func36 rfl Try.ntmps36 rfl ?_
  refine wp_seq ?_
  refine rg ?_
  refine st (asB rfl) ?_
  refine rg_end ?_
  refine n_then ?_
  refine wp_seq ?_
  refine rg ?_
  refine st (mvI rfl) ?_
  refine st (y_geq rfl rfl) ?_
  refine st (mvB rfl) ?_
  refine gspL 5 rfl (fun hg1 => ?_) (fun hg1 => ?_)
  ·
    have hg1n := hg1; try simp only [decide_eq_true_eq, decide_eq_false_iff_not, Bool.not_eq_true', Bool.not_eq_false', Bool.and_eq_true, Bool.or_eq_true, Bool.or_eq_false_iff, Bool.cond_true_right, Bool.cond_false_right, Bool.cond_true_left, Bool.cond_false_left, ne_eq, Decidable.not_not, bne_iff_ne, beq_iff_eq, beq_eq_false_iff_ne, Bool.not_true, Bool.not_false] at hg1n
    refine stg rfl rfl hg1 (mvI rfl) ?_
    refine stg rfl rfl hg1 (y_lss rfl rfl) ?_
    refine st (y_pickT rfl hg1 (v := .bool _) rfl) ?_
    refine st (asB rfl) ?_
    refine rg_end ?_
    refine n_then ?_
    refine wp_ret ?_
    refine ret1 (v := (.bool _)) Try.results36 rfl ?_
    exact ⟨vb (by simp only [okT, decide_eq_true_eq, decide_eq_false_iff_not, Bool.not_eq_true', Bool.not_eq_eq_eq_not, Bool.not_true, Bool.false_eq_true, false_iff, true_iff, iff_true, iff_false]; omega), hE⟩
  ·
    have hg1n := hg1; try simp only [decide_eq_true_eq, decide_eq_false_iff_not, Bool.not_eq_true', Bool.not_eq_false', Bool.and_eq_true, Bool.or_eq_true, Bool.or_eq_false_iff, Bool.cond_true_right, Bool.cond_false_right, Bool.cond_true_left, Bool.cond_false_left, ne_eq, Decidable.not_not, bne_iff_ne, beq_iff_eq, beq_eq_false_iff_ne, Bool.not_true, Bool.not_false] at hg1n
    refine sts rfl rfl hg1 ?_
    refine sts rfl rfl hg1 ?_
    refine st (y_pickF rfl hg1 (v := .bool _) rfl) ?_
    refine st (asB rfl) ?_
    refine rg_end ?_
    refine n_then ?_
    refine wp_ret ?_
    refine ret1 (v := (.bool _)) Try.results36 rfl ?_
    exact ⟨vb (by simp only [okT, decide_eq_true_eq, decide_eq_false_iff_not, Bool.not_eq_true', Bool.not_eq_eq_eq_not, Bool.not_true, Bool.false_eq_true, false_iff, true_iff, iff_true, iff_false]; omega), hE⟩

set_option maxRecDepth 100000 in
theorem ilk_has_ok (S : IS) (lo hi b : Nat) (r : Int) (w : World) (hX : Ilk lo hi b w S) (hS : IsOk S)  : Cal Try.prog 35 [.pointer (some ⟨b, 0, none⟩), .int .i64 r] w (fun v w' => v = .bool (isR S r) ∧ Ext w w') := by
  obtain ⟨ar, cr, af, cf, l2, h2, hb, hr, hf, hl2, hh2, hlb, hbh, hhi, hd1, hd2⟩ := hX.ex
  have hbl := hb.lt
  have hrn0 := hr.rng
  have hn1 := hS.n1
  have hn2 := hS.n2
  have hE : Out 0 0 w w := Out.refl _ _ w
  refine enter Try.func35 rfl Try.ntmps35 rfl ?_
  refine wp_seq ?_
  refine rg ?_
  refine st (asB rfl) ?_
  refine rg_end ?_
  refine n_then ?_
  refine wp_seq ?_
  refine rg ?_
  refine st (mvI rfl) ?_
  refine st (y_geq rfl rfl) ?_
  refine st (mvB rfl) ?_
  refine gspL 7 rfl (fun hg1 => ?_) (fun hg1 => ?_)
  ·
    have hg1n := hg1; try simp only [decide_eq_true_eq, decide_eq_false_iff_not, Bool.not_eq_true', Bool.not_eq_false', Bool.and_eq_true, Bool.or_eq_true, Bool.or_eq_false_iff, Bool.cond_true_right, Bool.cond_false_right, Bool.cond_true_left, Bool.cond_false_left, ne_eq, Decidable.not_not, bne_iff_ne, beq_iff_eq, beq_eq_false_iff_ne, Bool.not_true, Bool.not_false] at hg1n
    refine stg rfl rfl hg1 (mvI rfl) ?_
    refine stg rfl rfl hg1 (mvP rfl) ?_
    refine stg rfl rfl hg1 (y_nil rfl) ?_
    refine stg rfl rfl hg1 (y_fld fld62_0 rfl) ?_
    refine stg rfl rfl hg1 (y_lb hb na59 rfl rfl) ?_
    refine stg rfl rfl hg1 (y_len Try.underlying59 rfl) ?_
    refine stg rfl rfl hg1 (y_lss rfl rfl) ?_
    refine st (y_pickT rfl hg1 (v := .bool _) rfl) ?_
    refine st (asB rfl) ?_
    refine rg_end ?_
    refine n_then ?_
    refine wp_ret ?_
    refine ret1 (v := (.bool _)) Try.results35 rfl ?_
    exact ⟨vb (by simp only [isR, decide_eq_true_eq, decide_eq_false_iff_not, Bool.not_eq_true', Bool.not_eq_eq_eq_not, Bool.not_true, Bool.false_eq_true, false_iff, true_iff, iff_true, iff_false]; omega), hE⟩
  ·
    have hg1n := hg1; try simp only [decide_eq_true_eq, decide_eq_false_iff_not, Bool.not_eq_true', Bool.not_eq_false', Bool.and_eq_true, Bool.or_eq_true, Bool.or_eq_false_iff, Bool.cond_true_right, Bool.cond_false_right, Bool.cond_true_left, Bool.cond_false_left, ne_eq, Decidable.not_not, bne_iff_ne, beq_iff_eq, beq_eq_false_iff_ne, Bool.not_true, Bool.not_false] at hg1n
    refine sts rfl rfl hg1 ?_
    refine sts rfl rfl hg1 ?_
    refine sts rfl rfl hg1 ?_
    refine sts rfl rfl hg1 ?_
    refine sts rfl rfl hg1 ?_
    refine sts rfl rfl hg1 ?_
    refine sts rfl rfl hg1 ?_
    refine st (y_pickF rfl hg1 (v := .bool _) rfl) ?_
    refine st (asB rfl) ?_
    refine rg_end ?_
    refine n_then ?_
    refine wp_ret ?_
    refine ret1 (v := (.bool _)) Try.results35 rfl ?_
    exact ⟨vb (by simp only [isR, decide_eq_true_eq, decide_eq_false_iff_not, Bool.not_eq_true', Bool.not_eq_eq_eq_not, Bool.not_true, Bool.false_eq_true, false_iff, true_iff, iff_true, iff_false]; omega), hE⟩

set_option maxRecDepth 100000 in
theorem ilk_Flanks_ok (S : IS) (lo hi b : Nat) (r : Int) (w : World) (hX : Ilk lo hi b w S) (hS : IsOk S)  : Cal Try.prog 19 [.pointer (some ⟨b, 0, none⟩), .int .i64 r] w (fun v w' => v = .int .i64 (flk S r) ∧ Ext w w') := by
  obtain ⟨ar, cr, af, cf, l2, h2, hb, hr, hf, hl2, hh2, hlb, hbh, hhi, hd1, hd2⟩ := hX.ex
  have hbl := hb.lt
  have hrn0 := hr.rng
  have hn1 := hS.n1
  have hn2 := hS.n2
  have hE : Out 0 0 w w := Out.refl _ _ w
  refine enter Try.func19 rfl Try.ntmps19 rfl ?_
  refine wp_seq ?_
  refine rg ?_
  refine st (asI rfl) ?_
  refine rg_end ?_
  refine n_then ?_
  refine wp_seq ?_
  refine rg ?_
  refine st (asI rfl) ?_
  refine rg_end ?_
  refine n_then ?_
  refine wp_seq ?_
  refine wp_seq ?_
  refine rg ?_
  refine st (mvP rfl) ?_
  refine st (y_nil rfl) ?_
  refine st (y_fld fld62_1 rfl) ?_
  refine st (y_lb hb na22 rfl rfl) ?_
  refine st (y_len Try.underlying22 rfl) ?_
  refine st (mvI rfl) ?_
  refine rg_end ?_
  refine n_then ?_
  refine wp_block ?_
  refine lp (γ := Nat × Int) [5, 7, 13, 14, 15, 16, 17, 18, 19, 20, 21, 22, 23, 24, 25, 26, 27, 28, 29, 30, 31, 32, 33, 34, 35] (fun ⟨k, q⟩ => [(13, .int .i64 (k : Int)), (5, .int .i64 q)]) (fun ⟨k, q⟩ w_ => Ext w w_ ∧ (k : Int) ≤ S.fl.length ∧ q = (((S.fl.take k).countP (fkp S r) : Nat) : Int)) (fun ⟨k, q⟩ => S.fl.length - k) (0, 0) ⟨rfl, rfl, trivial⟩ ⟨Out.refl _ _ _, by simp, by simp⟩ ?_
  rintro ⟨k, q⟩ hav_ w1 ⟨ho2, hk, hq⟩
  have hlp0 := ho2
  have hz3 := ho2.size
  replace hX := hX.ext ho2
  replace hb := hb.ext ho2
  replace hr := hr.ext ho2
  replace hf := hf.ext ho2
  replace hE := hE.step ho2 (.inl (Nat.le_refl _))
  refine wp_seq ?_
  refine rg ?_
  refine st (y_lss rfl rfl) ?_
  refine rg_end ?_
  refine n_then ?_
  refine wp_seq ?_
  refine cnd rfl (fun hc0 => ?_) (fun hc0 => ?_)
  ·
    try simp only [decide_eq_true_eq, decide_eq_false_iff_not, Bool.not_eq_true', Bool.not_eq_false', Bool.and_eq_true, Bool.or_eq_true, Bool.or_eq_false_iff, Bool.cond_true_right, Bool.cond_false_right, Bool.cond_true_left, Bool.cond_false_left, ne_eq, Decidable.not_not, bne_iff_ne, beq_iff_eq, beq_eq_false_iff_ne, Bool.not_true, Bool.not_false] at hc0
    have hfk := hS.fl.ok _ (el_mem (l := S.fl) (i := (k : Int)) (by omega) hc0)
    have hfl := hS.fl.len
    have hct := cnt_le (S := S) (r := r) (k := k)
    have hcs := cnt_step (S := S) (r := r) hc0
    refine wp_skip ?_
    refine n_then ?_
    refine wp_seq ?_
    refine wp_block ?_
    refine wp_seq ?_
    refine rg ?_
    refine st (y_ix hf sl22 rfl (rfl) rfl (by omega) (by omega)) ?_
    refine st (y_lw hf agg35 rfl (by omega) (by omega)) ?_
    refine sd (d_allocA zer35 ?_)
    intro bl7 w4 hbbl7 hs6 ho5 hbl7
    have hz8 := ho5.size
    replace hX := hX.ext ho5
    replace hb := hb.ext ho5
    replace hr := hr.ext ho5
    replace hf := hf.ext ho5
    replace hE := hE.step ho5 (.inl (Nat.le_refl _))
    replace hlp0 := hlp0.step ho5 (.inl (Nat.le_refl _))
    refine sd0 (d_stN hbl7 rfl rfl sz35 rfl rfl ?_)
    intro w9 hs11 ho10 hbl7'
    clear hbl7; have hbl7 := hbl7'; clear hbl7'
    have hz12 := ho10.size
    replace hX := hX.out ho10 (by first | omega | (simp only [blk_some, hi1_some] at *; omega))
    replace hb := hb.out ho10 (by first | omega | (simp only [blk_some, hi1_some] at *; omega))
    have hrnhr := hr.rng
    replace hr := hr.out ho10 (by first | omega | (simp only [blk_some, hi1_some] at *; omega))
    replace hf := hf.out ho10 (by first | omega | (simp only [blk_some, hi1_some] at *; omega))
    replace hE := hE.step ho10 (by first | omega | (simp only [blk_some, hi1_some] at *; omega))
    replace hlp0 := hlp0.step ho10 (by first | omega | (simp only [blk_some, hi1_some] at *; omega))
    refine rg_end ?_
    refine n_then ?_
    refine wp_seq ?_
    refine rgD 11 (fun w_ => Ext w9 w_) (fun i => false) mixed (by kernel_rfl) ?_
    intro w13 ho14 hs15
    refine ⟨ho14, ?_⟩
    have hx16 := ho14
    refine tn rfl (fun _ hG => y_fld fld35_1 rfl) ?_
    refine tn rfl (fun _ hG => y_lb (hbl7.ext hG) na3 rfl rfl) ?_
    refine tn rfl (fun _ hG => mvI rfl) ?_
    refine tn rfl (fun _ hG => y_eql rfl rfl) ?_
    refine tn rfl (fun _ hG => mvB rfl) ?_
    refine gspT 21 rfl (fun hg17 => ?_) (fun hg17 => ?_)
    ·
      have hg17n := hg17; try simp only [decide_eq_true_eq, decide_eq_false_iff_not, Bool.not_eq_true', Bool.not_eq_false', Bool.and_eq_true, Bool.or_eq_true, Bool.or_eq_false_iff, Bool.cond_true_right, Bool.cond_false_right, Bool.cond_true_left, Bool.cond_false_left, ne_eq, Decidable.not_not, bne_iff_ne, beq_iff_eq, beq_eq_false_iff_ne, Bool.not_true, Bool.not_false] at hg17n
      refine tng rfl rfl rfl hg17 (fun _ hG => mvP rfl) ?_
      refine tng rfl rfl rfl hg17 (fun _ hG => y_nil rfl) ?_
      refine tng rfl rfl rfl hg17 (fun _ hG => y_fld fld62_0 rfl) ?_
      refine tng rfl rfl rfl hg17 (fun _ hG => y_lb (hb.ext hG) na59 rfl rfl) ?_
      refine tng rfl rfl rfl hg17 (fun _ hG => y_fld fld35_0 rfl) ?_
      refine tng rfl rfl rfl hg17 (fun _ hG => y_lb (hbl7.ext hG) na3 rfl rfl) ?_
      refine t_end ?_
      have hz18 := hx16.size
      replace hX := hX.ext hx16
      replace hb := hb.ext hx16
      replace hr := hr.ext hx16
      replace hf := hf.ext hx16
      replace hE := hE.step hx16 (.inl (Nat.le_refl _))
      replace hlp0 := hlp0.step hx16 (.inl (Nat.le_refl _))
      replace hbl7 := hbl7.ext hx16
      refine stg rfl rfl hg17 (y_ix hr.sl sl59 rfl (rfl) rfl (by omega) (by omega)) ?_
      refine stg rfl rfl hg17 (y_fld fld64_0 rfl) ?_
      refine stg rfl rfl hg17 (y_lf hr.sl na3 rfl (by omega) (by omega) rfl) ?_
      refine stg rfl rfl hg17 (y_neq rfl rfl) ?_
      refine st (y_pickT rfl hg17 (v := .bool _) rfl) ?_
      refine rg_end ?_
      refine n_then ?_
      refine cnd rfl (fun hc1 => ?_) (fun hc1 => ?_)
      ·
        try simp only [decide_eq_true_eq, decide_eq_false_iff_not, Bool.not_eq_true', Bool.not_eq_false', Bool.and_eq_true, Bool.or_eq_true, Bool.or_eq_false_iff, Bool.cond_true_right, Bool.cond_false_right, Bool.cond_true_left, Bool.cond_false_left, ne_eq, Decidable.not_not, bne_iff_ne, beq_iff_eq, beq_eq_false_iff_ne, Bool.not_true, Bool.not_false] at hc1
        refine rg ?_
        refine st (mvI rfl) ?_
        refine st (y_add rfl rfl (by omega)) ?_
        refine st (asI rfl) ?_
        refine rg_end ?_
        refine n_blk ?_
        refine n_then ?_
        refine rg ?_
        refine st (y_add rfl rfl (by omega)) ?_
        refine st (mvI rfl) ?_
        refine rg_end ?_
        exact n_then ⟨(k + 1, _), _, rfl, same_lk rfl (same_h0), ⟨rfl, rfl, trivial⟩, ⟨hlp0, by omega, (by split at hcs <;> omega)⟩, by first | omega | (dsimp only; omega)⟩
      ·
        try simp only [decide_eq_true_eq, decide_eq_false_iff_not, Bool.not_eq_true', Bool.not_eq_false', Bool.and_eq_true, Bool.or_eq_true, Bool.or_eq_false_iff, Bool.cond_true_right, Bool.cond_false_right, Bool.cond_true_left, Bool.cond_false_left, ne_eq, Decidable.not_not, bne_iff_ne, beq_iff_eq, beq_eq_false_iff_ne, Bool.not_true, Bool.not_false] at hc1
        refine wp_skip ?_
        refine n_blk ?_
        refine n_then ?_
        refine rg ?_
        refine st (y_add rfl rfl (by omega)) ?_
        refine st (mvI rfl) ?_
        refine rg_end ?_
        exact n_then ⟨(k + 1, _), _, rfl, same_lk rfl (same_h0), ⟨rfl, rfl, trivial⟩, ⟨hlp0, by omega, (by split at hcs <;> omega)⟩, by first | omega | (dsimp only; omega)⟩
    ·
      have hg17n := hg17; try simp only [decide_eq_true_eq, decide_eq_false_iff_not, Bool.not_eq_true', Bool.not_eq_false', Bool.and_eq_true, Bool.or_eq_true, Bool.or_eq_false_iff, Bool.cond_true_right, Bool.cond_false_right, Bool.cond_true_left, Bool.cond_false_left, ne_eq, Decidable.not_not, bne_iff_ne, beq_iff_eq, beq_eq_false_iff_ne, Bool.not_true, Bool.not_false] at hg17n
      refine tns rfl rfl hg17 ?_
      refine tns rfl rfl hg17 ?_
      refine tns rfl rfl hg17 ?_
      refine tns rfl rfl hg17 ?_
      refine tns rfl rfl hg17 ?_
      refine tns rfl rfl hg17 ?_
      refine t_end ?_
      have hz19 := hx16.size
      replace hX := hX.ext hx16
      replace hb := hb.ext hx16
      replace hr := hr.ext hx16
      replace hf := hf.ext hx16
      replace hE := hE.step hx16 (.inl (Nat.le_refl _))
      replace hlp0 := hlp0.step hx16 (.inl (Nat.le_refl _))
      replace hbl7 := hbl7.ext hx16
      refine sts rfl rfl hg17 ?_
      refine sts rfl rfl hg17 ?_
      refine sts rfl rfl hg17 ?_
      refine sts rfl rfl hg17 ?_
      refine st (y_pickF rfl hg17 (v := .bool _) rfl) ?_
      refine rg_end ?_
      refine n_then ?_
      refine cnd rfl (fun hc1 => absurd hc1 (by decide)) (fun hc1 => ?_)
      refine wp_skip ?_
      refine n_blk ?_
      refine n_then ?_
      refine rg ?_
      refine st (y_add rfl rfl (by omega)) ?_
      refine st (mvI rfl) ?_
      refine rg_end ?_
      exact n_then ⟨(k + 1, _), _, rfl, same_lk rfl (same_h0), ⟨rfl, rfl, trivial⟩, ⟨hlp0, by omega, (by split at hcs <;> omega)⟩, by first | omega | (dsimp only; omega)⟩
  ·
    try simp only [decide_eq_true_eq, decide_eq_false_iff_not, Bool.not_eq_true', Bool.not_eq_false', Bool.and_eq_true, Bool.or_eq_true, Bool.or_eq_false_iff, Bool.cond_true_right, Bool.cond_false_right, Bool.cond_true_left, Bool.cond_false_left, ne_eq, Decidable.not_not, bne_iff_ne, beq_iff_eq, beq_eq_false_iff_ne, Bool.not_true, Bool.not_false] at hc0
    refine wp_exit ?_
    refine e_then (e_then (e_blk (?_)))
    refine n_then ?_
    refine wp_seq ?_
    refine rg ?_
    refine st (mvI rfl) ?_
    refine st (asI rfl) ?_
    refine rg_end ?_
    refine n_then ?_
    refine wp_ret ?_
    refine ret1 (v := (.int .i64 _)) Try.results19 rfl ?_
    exact ⟨vi (by rw [hq]; exact cnt_end hc0), hE⟩

set_option maxRecDepth 100000 in
theorem ilk_repeated_ok (S : IS) (lo hi b : Nat) (l : List Lk) (al : Option Addr) (cl la ha : Nat) (w : World) (hX : Ilk lo hi b w S) (hS : IsOk S) (hL : Sl encLk 2 la ha w al l) (hn : (l.length : Int) ≤ 9223372036854775807) (hlk : ∀ k ∈ l, 0 ≤ k.rs ∧ k.rs < S.rs.length ∧ -1 ≤ k.po ∧ k.po ≤ 1) : Cal Try.prog 37 [.pointer (some ⟨b, 0, none⟩), .slice al l.length cl] w (fun v w' => v = .bool (repGo l (fun _ => false)) ∧ Ext w w') := by
  obtain ⟨ar, cr, af, cf, l2, h2, hb, hr, hf, hl2, hh2, hlb, hbh, hhi, hd1, hd2⟩ := hX.ex
  have hbl := hb.lt
  have hrn0 := hr.rng
  have hn1 := hS.n1
  have hn2 := hS.n2
  replace hL := Sl.full (fun _ => by simp [encLk]) hL
  have hE : Out 0 0 w w := Out.refl _ _ w
  refine enter Try.func37 rfl Try.ntmps37 rfl ?_
  refine wp_seq ?_
  refine rg ?_
  refine st (asB rfl) ?_
  refine rg_end ?_
  refine n_then ?_
  refine wp_seq ?_
  refine rg ?_
  refine st (mvP rfl) ?_
  refine st (y_nil rfl) ?_
  refine st (y_fld fld62_0 rfl) ?_
  refine st (y_lb hb na59 rfl rfl) ?_
  refine st (y_len Try.underlying59 rfl) ?_
  refine sd (d_make (lo := w.heap.size) (enc := encB) (e0 := false) sl65 info4 (fun _ => rfl) rfl rfl rfl (by omega) (by unfold maxLen; omega) (by omega) ?_)
  intro bm w1 hbbm hs3 ho2 hm
  have hz5 := ho2.size
  replace hX := hX.ext ho2
  replace hb := hb.ext ho2
  replace hr := hr.ext ho2
  replace hf := hf.ext ho2
  replace hL := hL.ext ho2
  replace hE := hE.step ho2 (.inl (Nat.le_refl _))
  refine st (asS rfl) ?_
  refine rg_end ?_
  refine n_then ?_
  refine wp_seq ?_
  refine wp_seq ?_
  refine rg ?_
  refine st (mvS rfl) ?_
  refine st (y_len Try.underlying46 rfl) ?_
  refine st (mvI rfl) ?_
  refine rg_end ?_
  refine n_then ?_
  refine wp_block ?_
  refine lp (γ := Nat × List Bool × (Int → Bool)) [4, 7, 16, 17, 18, 19, 20, 21, 22, 23, 24, 25, 26, 27, 28, 29] (fun ⟨k, s, B⟩ => [(16, .int .i64 (k : Int))]) (fun ⟨k, s, B⟩ w_ => Out bm (bm + 1) w1 w_ ∧ (k : Int) ≤ l.length ∧ s.length = S.rs.length ∧ Rep s B ∧ repGo l (fun _ => false) = repGo (l.drop k) B ∧ Ow 4 encB 1 w.heap.size (bm + 1) w_ (some ⟨bm, 0, none⟩) S.rs.length s) (fun ⟨k, s, B⟩ => l.length - k) (0, List.replicate S.rs.length false, fun _ => false) ⟨rfl, trivial⟩ ⟨Out.refl _ _ _, by simp, by simp, Rep.repl _ _, rfl, hm⟩ ?_
  rintro ⟨k, s, B⟩ hav_ w6 ⟨ho7, hk, hsl, hRp, hrp, hm⟩
  have hlp0 := ho7
  have hz8 := ho7.size
  replace hX := hX.out ho7 (by first | omega | (simp only [blk_some, hi1_some] at *; omega))
  replace hb := hb.out ho7 (by first | omega | (simp only [blk_some, hi1_some] at *; omega))
  have hrnhr := hr.rng
  replace hr := hr.out ho7 (by first | omega | (simp only [blk_some, hi1_some] at *; omega))
  replace hf := hf.out ho7 (by first | omega | (simp only [blk_some, hi1_some] at *; omega))
  replace hL := hL.out ho7 (by first | omega | (simp only [blk_some, hi1_some] at *; omega))
  replace hE := hE.step ho7 (by first | omega | (simp only [blk_some, hi1_some] at *; omega))
  refine wp_seq ?_
  refine rg ?_
  refine st (y_lss rfl rfl) ?_
  refine rg_end ?_
  refine n_then ?_
  refine wp_seq ?_
  refine cnd rfl (fun hc0 => ?_) (fun hc0 => ?_)
  ·
    try simp only [decide_eq_true_eq, decide_eq_false_iff_not, Bool.not_eq_true', Bool.not_eq_false', Bool.and_eq_true, Bool.or_eq_true, Bool.or_eq_false_iff, Bool.cond_true_right, Bool.cond_false_right, Bool.cond_true_left, Bool.cond_false_left, ne_eq, Decidable.not_not, bne_iff_ne, beq_iff_eq, beq_eq_false_iff_ne, Bool.not_true, Bool.not_false] at hc0
    have hkl := hlk _ (el_mem (l := l) (i := (k : Int)) (by omega) hc0)
    refine wp_skip ?_
    refine n_then ?_
    refine wp_seq ?_
    refine wp_block ?_
    refine wp_seq ?_
    refine rg ?_
    refine st (y_ix hL sl46 rfl (rfl) rfl (by omega) (by omega)) ?_
    refine st (y_lw hL agg45 rfl (by omega) (by omega)) ?_
    refine sd (d_allocA zer45 ?_)
    intro bl12 w9 hbbl12 hs11 ho10 hbl12
    have hz13 := ho10.size
    replace hX := hX.ext ho10
    replace hb := hb.ext ho10
    replace hr := hr.ext ho10
    replace hf := hf.ext ho10
    replace hL := hL.ext ho10
    replace hE := hE.step ho10 (.inl (Nat.le_refl _))
    replace hm := hm.ext ho10
    replace hlp0 := hlp0.step ho10 (.inl (Nat.le_refl _))
    refine sd0 (d_stN hbl12 rfl rfl sz45 rfl rfl ?_)
    intro w14 hs16 ho15 hbl12'
    clear hbl12; have hbl12 := hbl12'; clear hbl12'
    have hz17 := ho15.size
    replace hX := hX.out ho15 (by first | omega | (simp only [blk_some, hi1_some] at *; omega))
    replace hb := hb.out ho15 (by first | omega | (simp only [blk_some, hi1_some] at *; omega))
    replace hr := hr.out ho15 (by first | omega | (simp only [blk_some, hi1_some] at *; omega))
    replace hf := hf.out ho15 (by first | omega | (simp only [blk_some, hi1_some] at *; omega))
    replace hL := hL.out ho15 (by first | omega | (simp only [blk_some, hi1_some] at *; omega))
    replace hE := hE.step ho15 (by first | omega | (simp only [blk_some, hi1_some] at *; omega))
    have hrnhm := hm.rng
    replace hm := hm.out ho15 (by first | omega | (simp only [blk_some, hi1_some] at *; omega))
    replace hlp0 := hlp0.step ho15 (by first | omega | (simp only [blk_some, hi1_some] at *; omega))
    refine rg_end ?_
    refine n_then ?_
    refine wp_seq ?_
    refine wp_seq ?_
    refine rg ?_
    refine st (mvS rfl) ?_
    refine st (y_fld fld45_0 rfl) ?_
    refine st (y_lb hbl12 na3 rfl rfl) ?_
    refine st (y_ix hm.sl sl65 rfl (hsl.symm) rfl (by omega) (by omega)) ?_
    refine st (y_le hm.sl na4 rfl (by omega) (by omega) rfl) ?_
    refine rg_end ?_
    refine n_then ?_
    refine cnd rfl (fun hc1 => ?_) (fun hc1 => ?_)
    ·
      try simp only [decide_eq_true_eq, decide_eq_false_iff_not, Bool.not_eq_true', Bool.not_eq_false', Bool.and_eq_true, Bool.or_eq_true, Bool.or_eq_false_iff, Bool.cond_true_right, Bool.cond_false_right, Bool.cond_true_left, Bool.cond_false_left, ne_eq, Decidable.not_not, bne_iff_ne, beq_iff_eq, beq_eq_false_iff_ne, Bool.not_true, Bool.not_false] at hc1
      refine wp_seq ?_
      refine rg ?_
      refine st (asB rfl) ?_
      refine rg_end ?_
      refine n_then ?_
      refine wp_ret ?_
      refine r_then (r_blk (r_then (r_then (r_blk (r_then (ret1 (v := (.bool _)) Try.results37 rfl ?_))))))
      exact ⟨by rw [rep_yes hc0 hrp ((hRp _ hkl.1 (by omega)).symm.trans hc1)], hE⟩
    ·
      try simp only [decide_eq_true_eq, decide_eq_false_iff_not, Bool.not_eq_true', Bool.not_eq_false', Bool.and_eq_true, Bool.or_eq_true, Bool.or_eq_false_iff, Bool.cond_true_right, Bool.cond_false_right, Bool.cond_true_left, Bool.cond_false_left, ne_eq, Decidable.not_not, bne_iff_ne, beq_iff_eq, beq_eq_false_iff_ne, Bool.not_true, Bool.not_false] at hc1
      refine wp_skip ?_
      refine n_then ?_
      refine rg ?_
      refine st (mvS rfl) ?_
      refine st (y_fld fld45_0 rfl) ?_
      refine st (y_lb hbl12 na3 rfl rfl) ?_
      refine st (y_ix hm.sl sl65 rfl (hsl.symm) rfl (by omega) (by omega)) ?_
      refine sd0 (d_se (j := 0)  hm sz4 rfl rfl rfl (by omega) (by omega) (Nat.le_of_ble_eq_true rfl) rfl ?_)
      intro w18 hs20 ho19 hm'
      have hrhm := hm.rng
      clear hm; have hm := hm'; clear hm'
      have hz21 := ho19.size
      replace hX := hX.out ho19 (by first | omega | (simp only [blk_some, hi1_some] at *; omega))
      replace hb := hb.out ho19 (by first | omega | (simp only [blk_some, hi1_some] at *; omega))
      replace hr := hr.out ho19 (by first | omega | (simp only [blk_some, hi1_some] at *; omega))
      replace hf := hf.out ho19 (by first | omega | (simp only [blk_some, hi1_some] at *; omega))
      replace hL := hL.out ho19 (by first | omega | (simp only [blk_some, hi1_some] at *; omega))
      replace hE := hE.step ho19 (by first | omega | (simp only [blk_some, hi1_some] at *; omega))
      replace hlp0 := hlp0.step ho19 (by first | omega | (simp only [blk_some, hi1_some] at *; omega))
      replace hbl12 := hbl12.out ho19 (by first | omega | (simp only [blk_some, hi1_some] at *; omega))
      refine rg_end ?_
      refine n_blk ?_
      refine n_then ?_
      refine rg ?_
      refine st (y_add rfl rfl (by omega)) ?_
      refine st (mvI rfl) ?_
      refine rg_end ?_
      exact n_then ⟨(k + 1, _, upd B (el l (k : Int)).rs true), _, rfl, same_lk rfl (same_h0), ⟨rfl, trivial⟩, ⟨hlp0, by omega, by simp [hsl], hRp.set hkl.1 (by omega), rep_step hc0 hrp ((hRp _ hkl.1 (by omega)).symm.trans hc1), hm⟩, by first | omega | (dsimp only; omega)⟩
  ·
    try simp only [decide_eq_true_eq, decide_eq_false_iff_not, Bool.not_eq_true', Bool.not_eq_false', Bool.and_eq_true, Bool.or_eq_true, Bool.or_eq_false_iff, Bool.cond_true_right, Bool.cond_false_right, Bool.cond_true_left, Bool.cond_false_left, ne_eq, Decidable.not_not, bne_iff_ne, beq_iff_eq, beq_eq_false_iff_ne, Bool.not_true, Bool.not_false] at hc0
    refine wp_exit ?_
    refine e_then (e_then (e_blk (?_)))
    refine n_then ?_
    refine wp_seq ?_
    refine rg ?_
    refine st (asB rfl) ?_
    refine rg_end ?_
    refine n_then ?_
    refine wp_ret ?_
    refine ret1 (v := (.bool _)) Try.results37 rfl ?_
    exact ⟨by rw [rep_end hc0 hrp], hE⟩

set_option maxRecDepth 100000 in
theorem ilk_checkLock_ok (S : IS) (lo hi b : Nat) (t : Int) (k : Lk) (w : World) (hX : Ilk lo hi b w S) (hS : IsOk S) (hk : 0 ≤ k.rs ∧ k.rs < S.rs.length) : Cal Try.prog 38 [.pointer (some ⟨b, 0, none⟩), .int .i64 t, .agg (encLk k).toArray] w (fun v w' => v = .int .i64 (lkE S t k) ∧ Ext w w') := by
  obtain ⟨ar, cr, af, cf, l2, h2, hb, hr, hf, hl2, hh2, hlb, hbh, hhi, hd1, hd2⟩ := hX.ex
  have hbl := hb.lt
  have hrn0 := hr.rng
  have hn1 := hS.n1
  have hn2 := hS.n2
  have hE : Out 0 0 w w := Out.refl _ _ w
  refine enter Try.func38 rfl Try.ntmps38 rfl ?_
  refine wp_seq ?_
  refine rg ?_
  refine sd (d_boxA rfl ?_)
  intro b5 w1 hbb5 hs3 ho2 hb5
  have hz4 := ho2.size
  replace hX := hX.ext ho2
  replace hb := hb.ext ho2
  replace hr := hr.ext ho2
  replace hf := hf.ext ho2
  replace hE := hE.step ho2 (.inl (Nat.le_refl _))
  refine st (asI rfl) ?_
  refine rg_end ?_
  refine n_then ?_
  refine wp_seq ?_
  refine rgD 9 (fun w_ => Ext w1 w_) (fun i => Nat.beq i 8) mixed (by kernel_rfl) ?_
  intro w5 ho6 hs7
  refine ⟨ho6, ?_⟩
  have hx8 := ho6
  refine tn rfl (fun _ hG => mvP rfl) ?_
  refine tn rfl (fun _ hG => y_nil rfl) ?_
  refine tn rfl (fun _ hG => y_fld fld62_0 rfl) ?_
  refine tn rfl (fun _ hG => y_lb (hb.ext hG) na59 rfl rfl) ?_
  refine tn rfl (fun _ hG => y_fld fld45_0 rfl) ?_
  refine tn rfl (fun _ hG => y_lb (hb5.ext hG) na3 rfl rfl) ?_
  refine tn rfl (fun _ hG => y_ix (hr.ext hG).sl sl59 rfl (rfl) rfl (by omega) (by omega)) ?_
  refine tn rfl (fun _ hG => y_lw (hr.ext hG).sl agg64 rfl (by omega) (by omega)) ?_
  refine td rfl (d_allocA zer64 ?_)
  intro b7 w9 hbb7 hs11 ho10 hb7
  have hx12 := hx8.step ho10 (.inl (Nat.le_refl _))
  have hz13 := ho10.size
  refine ⟨hx12, ?_⟩
  refine t_end ?_
  have hz14 := hx12.size
  replace hX := hX.ext hx12
  replace hb := hb.ext hx12
  replace hr := hr.ext hx12
  replace hf := hf.ext hx12
  replace hE := hE.step hx12 (.inl (Nat.le_refl _))
  replace hb5 := hb5.ext hx12
  refine sd0 (d_stN hb7 rfl rfl sz64 rfl rfl ?_)
  intro w15 hs17 ho16 hb7'
  clear hb7; have hb7 := hb7'; clear hb7'
  have hz18 := ho16.size
  replace hX := hX.out ho16 (by first | omega | (simp only [blk_some, hi1_some] at *; omega))
  replace hb := hb.out ho16 (by first | omega | (simp only [blk_some, hi1_some] at *; omega))
  have hrnhr := hr.rng
  replace hr := hr.out ho16 (by first | omega | (simp only [blk_some, hi1_some] at *; omega))
  replace hf := hf.out ho16 (by first | omega | (simp only [blk_some, hi1_some] at *; omega))
  replace hE := hE.step ho16 (by first | omega | (simp only [blk_some, hi1_some] at *; omega))
  replace hb5 := hb5.out ho16 (by first | omega | (simp only [blk_some, hi1_some] at *; omega))
  refine rg_end ?_
  refine n_then ?_
  refine cut (γ := Unit) [8, 17, 18, 19, 20, 21, 22, 23, 24, 25, 26] (fun _ => [(8, .bool (mvs S k))]) (fun _ w_ => Ext w15 w_ ∧ True) ?_ ?_
  ·
    have hcut := Out.refl 0 0 w15
    refine rg ?_
    refine st (y_fld fld45_1 rfl) ?_
    refine st (y_lb hb5 na3 rfl rfl) ?_
    refine st (y_geq rfl rfl) ?_
    refine st (mvB rfl) ?_
    refine gspL 20 rfl (fun hg19 => ?_) (fun hg19 => ?_)
    ·
      have hg19n := hg19; try simp only [decide_eq_true_eq, decide_eq_false_iff_not, Bool.not_eq_true', Bool.not_eq_false', Bool.and_eq_true, Bool.or_eq_true, Bool.or_eq_false_iff, Bool.cond_true_right, Bool.cond_false_right, Bool.cond_true_left, Bool.cond_false_left, ne_eq, Decidable.not_not, bne_iff_ne, beq_iff_eq, beq_eq_false_iff_ne, Bool.not_true, Bool.not_false] at hg19n
      refine stg rfl rfl hg19 (y_fld fld45_1 rfl) ?_
      refine stg rfl rfl hg19 (y_lb hb5 na3 rfl rfl) ?_
      refine stg rfl rfl hg19 (y_fld fld64_1 rfl) ?_
      refine stg rfl rfl hg19 (y_lb hb7 na3 rfl rfl) ?_
      refine stg rfl rfl hg19 (y_neq rfl rfl) ?_
      refine st (y_pickT rfl hg19 (v := .bool _) rfl) ?_
      refine st (asB rfl) ?_
      refine rg_end ?_
      exact n_then ⟨(), _, rfl, same_lk rfl (same_rfl), ⟨vb (by simp only [mvs, decide_eq_true_eq, decide_eq_false_iff_not, Bool.not_eq_true', Bool.not_eq_eq_eq_not, Bool.not_true, Bool.false_eq_true, false_iff, true_iff, iff_true, iff_false]; omega), trivial⟩, ⟨hcut, trivial⟩⟩
    ·
      have hg19n := hg19; try simp only [decide_eq_true_eq, decide_eq_false_iff_not, Bool.not_eq_true', Bool.not_eq_false', Bool.and_eq_true, Bool.or_eq_true, Bool.or_eq_false_iff, Bool.cond_true_right, Bool.cond_false_right, Bool.cond_true_left, Bool.cond_false_left, ne_eq, Decidable.not_not, bne_iff_ne, beq_iff_eq, beq_eq_false_iff_ne, Bool.not_true, Bool.not_false] at hg19n
      refine sts rfl rfl hg19 ?_
      refine sts rfl rfl hg19 ?_
      refine sts rfl rfl hg19 ?_
      refine sts rfl rfl hg19 ?_
      refine sts rfl rfl hg19 ?_
      refine st (y_pickF rfl hg19 (v := .bool _) rfl) ?_
      refine st (asB rfl) ?_
      refine rg_end ?_
      exact n_then ⟨(), _, rfl, same_lk rfl (same_rfl), ⟨vb (by simp only [mvs, decide_eq_true_eq, decide_eq_false_iff_not, Bool.not_eq_true', Bool.not_eq_eq_eq_not, Bool.not_true, Bool.false_eq_true, false_iff, true_iff, iff_true, iff_false]; omega), trivial⟩, ⟨hcut, trivial⟩⟩
  ·
    rintro _ hav_ w20 ⟨ho21, _⟩
    have hz22 := ho21.size
    replace hX := hX.ext ho21
    replace hb := hb.ext ho21
    replace hr := hr.ext ho21
    replace hf := hf.ext ho21
    replace hE := hE.step ho21 (.inl (Nat.le_refl _))
    replace hb5 := hb5.ext ho21
    replace hb7 := hb7.ext ho21
    refine wp_seq ?_
    refine wp_block ?_
    refine wp_seq ?_
    refine rg ?_
    refine st (y_fld fld64_0 rfl) ?_
    refine st (y_lb hb7 na3 rfl rfl) ?_
    refine st (mvI rfl) ?_
    refine st (y_eql rfl rfl) ?_
    refine st (asB rfl) ?_
    refine rg_end ?_
    refine n_then ?_
    refine cnd rfl (fun hc0 => ?_) (fun hc0 => ?_)
    ·
      try simp only [decide_eq_true_eq, decide_eq_false_iff_not, Bool.not_eq_true', Bool.not_eq_false', Bool.and_eq_true, Bool.or_eq_true, Bool.or_eq_false_iff, Bool.cond_true_right, Bool.cond_false_right, Bool.cond_true_left, Bool.cond_false_left, ne_eq, Decidable.not_not, bne_iff_ne, beq_iff_eq, beq_eq_false_iff_ne, Bool.not_true, Bool.not_false] at hc0
      refine wp_seq ?_
      refine rg ?_
      refine st (mvB rfl) ?_
      refine rg_end ?_
      refine n_then ?_
      refine cnd rfl (fun hc1 => ?_) (fun hc1 => ?_)
      ·
        try simp only [decide_eq_true_eq, decide_eq_false_iff_not, Bool.not_eq_true', Bool.not_eq_false', Bool.and_eq_true, Bool.or_eq_true, Bool.or_eq_false_iff, Bool.cond_true_right, Bool.cond_false_right, Bool.cond_true_left, Bool.cond_false_left, ne_eq, Decidable.not_not, bne_iff_ne, beq_iff_eq, beq_eq_false_iff_ne, Bool.not_true, Bool.not_false] at hc1
        refine wp_seq ?_
        refine rg ?_
        refine st (asI rfl) ?_
        refine rg_end ?_
        refine n_then ?_
        refine wp_ret ?_
        refine r_blk (r_then (ret1 (v := (.int .i64 _)) Try.results38 rfl ?_))
        exact ⟨vi (by unfold lkE; rw [if_pos hc0, if_pos hc1]), hE⟩
      ·
        try simp only [decide_eq_true_eq, decide_eq_false_iff_not, Bool.not_eq_true', Bool.not_eq_false', Bool.and_eq_true, Bool.or_eq_true, Bool.or_eq_false_iff, Bool.cond_true_right, Bool.cond_false_right, Bool.cond_true_left, Bool.cond_false_left, ne_eq, Decidable.not_not, bne_iff_ne, beq_iff_eq, beq_eq_false_iff_ne, Bool.not_true, Bool.not_false] at hc1
        have hres : lkE S t k = 0 := by unfold lkE; rw [if_pos hc0, if_neg (by rw [hc1]; decide)]
        refine wp_skip ?_
        refine n_blk ?_
        refine n_then ?_
        refine wp_seq ?_
        refine rg ?_
        refine st (asI rfl) ?_
        refine rg_end ?_
        refine n_then ?_
        refine wp_ret ?_
        refine ret1 (v := (.int .i64 _)) Try.results38 rfl ?_
        exact ⟨vi hres.symm, hE⟩
    ·
      try simp only [decide_eq_true_eq, decide_eq_false_iff_not, Bool.not_eq_true', Bool.not_eq_false', Bool.and_eq_true, Bool.or_eq_true, Bool.or_eq_false_iff, Bool.cond_true_right, Bool.cond_false_right, Bool.cond_true_left, Bool.cond_false_left, ne_eq, Decidable.not_not, bne_iff_ne, beq_iff_eq, beq_eq_false_iff_ne, Bool.not_true, Bool.not_false] at hc0
      refine wp_seq ?_
      refine rg ?_
      refine st (y_fld fld64_0 rfl) ?_
      refine st (y_lb hb7 na3 rfl rfl) ?_
      refine st (y_neq rfl rfl) ?_
      refine st (asB rfl) ?_
      refine rg_end ?_
      refine n_then ?_
      refine cnd rfl (fun hc2 => ?_) (fun hc2 => ?_)
      ·
        try simp only [decide_eq_true_eq, decide_eq_false_iff_not, Bool.not_eq_true', Bool.not_eq_false', Bool.and_eq_true, Bool.or_eq_true, Bool.or_eq_false_iff, Bool.cond_true_right, Bool.cond_false_right, Bool.cond_true_left, Bool.cond_false_left, ne_eq, Decidable.not_not, bne_iff_ne, beq_iff_eq, beq_eq_false_iff_ne, Bool.not_true, Bool.not_false] at hc2
        refine wp_seq ?_
        refine rg ?_
        refine st (asI rfl) ?_
        refine rg_end ?_
        refine n_then ?_
        refine wp_ret ?_
        refine r_blk (r_then (ret1 (v := (.int .i64 _)) Try.results38 rfl ?_))
        exact ⟨vi (by unfold lkE; rw [if_neg hc0, if_pos hc2]), hE⟩
      ·
        try simp only [decide_eq_true_eq, decide_eq_false_iff_not, Bool.not_eq_true', Bool.not_eq_false', Bool.and_eq_true, Bool.or_eq_true, Bool.or_eq_false_iff, Bool.cond_true_right, Bool.cond_false_right, Bool.cond_true_left, Bool.cond_false_left, ne_eq, Decidable.not_not, bne_iff_ne, beq_iff_eq, beq_eq_false_iff_ne, Bool.not_true, Bool.not_false] at hc2
        refine wp_seq ?_
        refine rg ?_
        refine st (y_fld fld64_3 rfl) ?_
        refine st (y_lb hb7 na4 rfl rfl) ?_
        refine st (asB rfl) ?_
        refine rg_end ?_
        refine n_then ?_
        refine cnd rfl (fun hc3 => ?_) (fun hc3 => ?_)
        ·
          try simp only [decide_eq_true_eq, decide_eq_false_iff_not, Bool.not_eq_true', Bool.not_eq_false', Bool.and_eq_true, Bool.or_eq_true, Bool.or_eq_false_iff, Bool.cond_true_right, Bool.cond_false_right, Bool.cond_true_left, Bool.cond_false_left, ne_eq, Decidable.not_not, bne_iff_ne, beq_iff_eq, beq_eq_false_iff_ne, Bool.not_true, Bool.not_false] at hc3
          refine wp_seq ?_
          refine rg ?_
          refine st (asI rfl) ?_
          refine rg_end ?_
          refine n_then ?_
          refine wp_ret ?_
          refine r_blk (r_then (ret1 (v := (.int .i64 _)) Try.results38 rfl ?_))
          exact ⟨vi (by unfold lkE; rw [if_neg hc0, if_neg (not_not_intro hc2), if_pos hc3]), hE⟩
        ·
          try simp only [decide_eq_true_eq, decide_eq_false_iff_not, Bool.not_eq_true', Bool.not_eq_false', Bool.and_eq_true, Bool.or_eq_true, Bool.or_eq_false_iff, Bool.cond_true_right, Bool.cond_false_right, Bool.cond_true_left, Bool.cond_false_left, ne_eq, Decidable.not_not, bne_iff_ne, beq_iff_eq, beq_eq_false_iff_ne, Bool.not_true, Bool.not_false] at hc3
          refine wp_seq ?_
          refine rg ?_
          refine st (y_fld fld64_2 rfl) ?_
          refine st (y_lb hb7 na3 rfl rfl) ?_
          refine st (y_neq rfl rfl) ?_
          refine st (asB rfl) ?_
          refine rg_end ?_
          refine n_then ?_
          refine cnd rfl (fun hc4 => ?_) (fun hc4 => ?_)
          ·
            try simp only [decide_eq_true_eq, decide_eq_false_iff_not, Bool.not_eq_true', Bool.not_eq_false', Bool.and_eq_true, Bool.or_eq_true, Bool.or_eq_false_iff, Bool.cond_true_right, Bool.cond_false_right, Bool.cond_true_left, Bool.cond_false_left, ne_eq, Decidable.not_not, bne_iff_ne, beq_iff_eq, beq_eq_false_iff_ne, Bool.not_true, Bool.not_false] at hc4
            refine wp_seq ?_
            refine rg ?_
            refine st (asI rfl) ?_
            refine rg_end ?_
            refine n_then ?_
            refine wp_ret ?_
            refine r_blk (r_then (ret1 (v := (.int .i64 _)) Try.results38 rfl ?_))
            exact ⟨vi (by unfold lkE; rw [if_neg hc0, if_neg (not_not_intro hc2), if_neg (by rw [hc3]; decide), if_pos hc4]), hE⟩
          ·
            try simp only [decide_eq_true_eq, decide_eq_false_iff_not, Bool.not_eq_true', Bool.not_eq_false', Bool.and_eq_true, Bool.or_eq_true, Bool.or_eq_false_iff, Bool.cond_true_right, Bool.cond_false_right, Bool.cond_true_left, Bool.cond_false_left, ne_eq, Decidable.not_not, bne_iff_ne, beq_iff_eq, beq_eq_false_iff_ne, Bool.not_true, Bool.not_false] at hc4
            refine cut (γ := Unit) [44, 45, 46, 47, 48, 49, 50, 51, 52] (fun _ => [(44, .bool (decide (mvs S k = true ∧ 0 < flk S k.rs)))]) (fun _ w_ => Ext w20 w_ ∧ True) ?_ ?_
            ·
              have hcut := Out.refl 0 0 w20
              refine rg ?_
              refine st (mvB rfl) ?_
              refine st (mvB rfl) ?_
              refine gspL 46 rfl (fun hg23 => ?_) (fun hg23 => ?_)
              ·
                have hg23n := hg23; try simp only [decide_eq_true_eq, decide_eq_false_iff_not, Bool.not_eq_true', Bool.not_eq_false', Bool.and_eq_true, Bool.or_eq_true, Bool.or_eq_false_iff, Bool.cond_true_right, Bool.cond_false_right, Bool.cond_true_left, Bool.cond_false_left, ne_eq, Decidable.not_not, bne_iff_ne, beq_iff_eq, beq_eq_false_iff_ne, Bool.not_true, Bool.not_false] at hg23n
                refine stg rfl rfl hg23 (mvP rfl) ?_
                refine stg rfl rfl hg23 (y_fld fld45_0 rfl) ?_
                refine stg rfl rfl hg23 (y_lb hb5 na3 rfl rfl) ?_
                refine scg rfl rfl hg23 cl19 (ilk_Flanks_ok S _ _ _ _ _ hX hS) rfl ?_
                rintro v28 w24 ⟨rfl, ho25⟩
                have hz29 := ho25.size
                replace hX := hX.ext ho25
                replace hb := hb.ext ho25
                replace hr := hr.ext ho25
                replace hf := hf.ext ho25
                replace hE := hE.step ho25 (.inl (Nat.le_refl _))
                replace hb5 := hb5.ext ho25
                replace hb7 := hb7.ext ho25
                replace hcut := hcut.step ho25 (.inl (Nat.le_refl _))
                refine stg rfl rfl hg23 (y_gtr rfl rfl) ?_
                refine st (y_pickT rfl hg23 (v := .bool _) rfl) ?_
                refine st (asB rfl) ?_
                refine rg_end ?_
                exact n_then ⟨(), _, rfl, same_lk rfl (same_rfl), ⟨vb (by simp_all), trivial⟩, ⟨hcut, trivial⟩⟩
              ·
                have hg23n := hg23; try simp only [decide_eq_true_eq, decide_eq_false_iff_not, Bool.not_eq_true', Bool.not_eq_false', Bool.and_eq_true, Bool.or_eq_true, Bool.or_eq_false_iff, Bool.cond_true_right, Bool.cond_false_right, Bool.cond_true_left, Bool.cond_false_left, ne_eq, Decidable.not_not, bne_iff_ne, beq_iff_eq, beq_eq_false_iff_ne, Bool.not_true, Bool.not_false] at hg23n
                refine sts rfl rfl hg23 ?_
                refine sts rfl rfl hg23 ?_
                refine sts rfl rfl hg23 ?_
                refine sts rfl rfl hg23 ?_
                refine sts rfl rfl hg23 ?_
                refine st (y_pickF rfl hg23 (v := .bool _) rfl) ?_
                refine st (asB rfl) ?_
                refine rg_end ?_
                exact n_then ⟨(), _, rfl, same_lk rfl (same_rfl), ⟨vb (by simp_all), trivial⟩, ⟨hcut, trivial⟩⟩
            ·
              rintro _ hav_ w30 ⟨ho31, _⟩
              have hz32 := ho31.size
              replace hX := hX.ext ho31
              replace hb := hb.ext ho31
              replace hr := hr.ext ho31
              replace hf := hf.ext ho31
              replace hE := hE.step ho31 (.inl (Nat.le_refl _))
              replace hb5 := hb5.ext ho31
              replace hb7 := hb7.ext ho31
              refine cnd rfl (fun hc5 => ?_) (fun hc5 => ?_)
              ·
                try simp only [decide_eq_true_eq, decide_eq_false_iff_not, Bool.not_eq_true', Bool.not_eq_false', Bool.and_eq_true, Bool.or_eq_true, Bool.or_eq_false_iff, Bool.cond_true_right, Bool.cond_false_right, Bool.cond_true_left, Bool.cond_false_left, ne_eq, Decidable.not_not, bne_iff_ne, beq_iff_eq, beq_eq_false_iff_ne, Bool.not_true, Bool.not_false] at hc5
                refine wp_seq ?_
                refine rg ?_
                refine st (asI rfl) ?_
                refine rg_end ?_
                refine n_then ?_
                refine wp_ret ?_
                refine r_blk (r_then (ret1 (v := (.int .i64 _)) Try.results38 rfl ?_))
                exact ⟨vi (by unfold lkE; rw [if_neg hc0, if_neg (not_not_intro hc2), if_neg (by rw [hc3]; decide), if_neg (not_not_intro hc4), if_pos hc5]), hE⟩
              ·
                try simp only [decide_eq_true_eq, decide_eq_false_iff_not, Bool.not_eq_true', Bool.not_eq_false', Bool.and_eq_true, Bool.or_eq_true, Bool.or_eq_false_iff, Bool.cond_true_right, Bool.cond_false_right, Bool.cond_true_left, Bool.cond_false_left, ne_eq, Decidable.not_not, bne_iff_ne, beq_iff_eq, beq_eq_false_iff_ne, Bool.not_true, Bool.not_false] at hc5
                have hres : lkE S t k = 0 := by unfold lkE; rw [if_neg hc0, if_neg (not_not_intro hc2), if_neg (by rw [hc3]; decide), if_neg (not_not_intro hc4), if_neg hc5]
                refine wp_skip ?_
                refine n_blk ?_
                refine n_then ?_
                refine wp_seq ?_
                refine rg ?_
                refine st (asI rfl) ?_
                refine rg_end ?_
                refine n_then ?_
                refine wp_ret ?_
                refine ret1 (v := (.int .i64 _)) Try.results38 rfl ?_
                exact ⟨vi hres.symm, hE⟩

set_option maxHeartbeats 1000000 in
set_option maxRecDepth 100000 in
theorem ilk_flankMoves_ok (S : IS) (lo hi b : Nat) (l : List Lk) (al : Option Addr) (cl la ha : Nat) (w : World) (hX : Ilk lo hi b w S) (hS : IsOk S) (hL : Sl encLk 2 la ha w al l) (hn : (l.length : Int) ≤ 9223372036854775807) (hlk : ∀ k ∈ l, 0 ≤ k.rs ∧ k.rs < S.rs.length ∧ -1 ≤ k.po ∧ k.po ≤ 1) : Cal Try.prog 39 [.pointer (some ⟨b, 0, none⟩), .slice al l.length cl] w (fun v w' => ∃ am cm M e, v = .tuple #[.slice am M.length cm, .int .i64 e] ∧ e = fkGo S (nw S l) S.fl (wan S l) ∧ (e = 0 → M = movesOf (nw S l) S.fl) ∧ Sl encFk 3 w.heap.size w'.heap.size w' am M ∧ Ext w w') := by
  obtain ⟨ar, cr, af, cf, l2, h2, hb, hr, hf, hl2, hh2, hlb, hbh, hhi, hd1, hd2⟩ := hX.ex
  have hbl := hb.lt
  have hrn0 := hr.rng
  have hn1 := hS.n1
  have hn2 := hS.n2
  replace hL := Sl.full (fun _ => by simp [encLk]) hL
  have hE : Out 0 0 w w := Out.refl _ _ w
  refine enter Try.func39 rfl Try.ntmps39 rfl ?_
  refine wp_seq ?_
  refine rg ?_
  refine st (asS rfl) ?_
  refine st (asI rfl) ?_
  refine rg_end ?_
  refine n_then ?_
  refine wp_seq ?_
  refine rg ?_
  refine st (mvP rfl) ?_
  refine st (y_nil rfl) ?_
  refine st (y_fld fld62_0 rfl) ?_
  refine st (y_lb hb na59 rfl rfl) ?_
  refine st (y_len Try.underlying59 rfl) ?_
  refine sd (d_make (lo := w.heap.size) (enc := encI) (e0 := (0 : Int)) sl23 info3 (fun _ => rfl) rfl rfl rfl (by omega) (by unfold maxLen; omega) (by omega) ?_)
  intro bw w1 hbbw hs3 ho2 hw_
  have hz5 := ho2.size
  replace hX := hX.ext ho2
  replace hb := hb.ext ho2
  replace hr := hr.ext ho2
  replace hf := hf.ext ho2
  replace hL := hL.ext ho2
  replace hE := hE.step ho2 (.inl (Nat.le_refl _))
  refine st (asS rfl) ?_
  refine rg_end ?_
  refine n_then ?_
  refine wp_seq ?_
  refine rg ?_
  refine st (mvP rfl) ?_
  refine st (y_nil rfl) ?_
  refine st (y_fld fld62_0 rfl) ?_
  refine st (y_lb hb na59 rfl rfl) ?_
  refine st (y_len Try.underlying59 rfl) ?_
  refine sd (d_make (lo := w.heap.size) (enc := encB) (e0 := false) sl65 info4 (fun _ => rfl) rfl rfl rfl (by omega) (by unfold maxLen; omega) (by omega) ?_)
  intro bn w6 hbbn hs8 ho7 hn_
  have hz10 := ho7.size
  replace hX := hX.ext ho7
  replace hb := hb.ext ho7
  replace hr := hr.ext ho7
  replace hf := hf.ext ho7
  replace hL := hL.ext ho7
  replace hE := hE.step ho7 (.inl (Nat.le_refl _))
  replace hw_ := hw_.ext ho7
  refine st (asS rfl) ?_
  refine rg_end ?_
  refine n_then ?_
  refine wp_seq ?_
  refine wp_seq ?_
  refine rg ?_
  refine st (mvS rfl) ?_
  refine st (y_len Try.underlying23 rfl) ?_
  refine st (mvI rfl) ?_
  refine rg_end ?_
  refine n_then ?_
  refine wp_block ?_
  refine lp (γ := Nat × List Int) [8, 30, 31, 32, 33, 34, 35, 36] (fun ⟨q, V⟩ => [(30, .int .i64 (q : Int))]) (fun ⟨q, V⟩ w_ => Out bw (bw + 1) w6 w_ ∧ (q : Int) ≤ S.rs.length ∧ V.length = S.rs.length ∧ (∀ p : Nat, p < q → el V p = -1) ∧ Ow 3 encI 1 w.heap.size (bw + 1) w_ (some ⟨bw, 0, none⟩) S.rs.length V) (fun ⟨q, V⟩ => S.rs.length - q) (0, List.replicate S.rs.length 0) ⟨rfl, trivial⟩ ⟨Out.refl _ _ _, by simp, by simp, fun p hp => by omega, hw_⟩ ?_
  rintro ⟨q, V⟩ hav_ w11 ⟨ho12, hq, hVl, hfil, hw_⟩
  have hlp0 := ho12
  have hz13 := ho12.size
  replace hX := hX.out ho12 (by first | omega | (simp only [blk_some, hi1_some] at *; omega))
  replace hb := hb.out ho12 (by first | omega | (simp only [blk_some, hi1_some] at *; omega))
  have hrnhr := hr.rng
  replace hr := hr.out ho12 (by first | omega | (simp only [blk_some, hi1_some] at *; omega))
  replace hf := hf.out ho12 (by first | omega | (simp only [blk_some, hi1_some] at *; omega))
  replace hL := hL.out ho12 (by first | omega | (simp only [blk_some, hi1_some] at *; omega))
  replace hE := hE.step ho12 (by first | omega | (simp only [blk_some, hi1_some] at *; omega))
  have hrnhn_ := hn_.rng
  replace hn_ := hn_.out ho12 (by first | omega | (simp only [blk_some, hi1_some] at *; omega))
  refine wp_seq ?_
  refine rg ?_
  refine st (y_lss rfl rfl) ?_
  refine rg_end ?_
  refine n_then ?_
  refine wp_seq ?_
  refine cnd rfl (fun hc0 => ?_) (fun hc0 => ?_)
  ·
    try simp only [decide_eq_true_eq, decide_eq_false_iff_not, Bool.not_eq_true', Bool.not_eq_false', Bool.and_eq_true, Bool.or_eq_true, Bool.or_eq_false_iff, Bool.cond_true_right, Bool.cond_false_right, Bool.cond_true_left, Bool.cond_false_left, ne_eq, Decidable.not_not, bne_iff_ne, beq_iff_eq, beq_eq_false_iff_ne, Bool.not_true, Bool.not_false] at hc0
    refine wp_skip ?_
    refine n_then ?_
    refine wp_seq ?_
    refine wp_block ?_
    refine wp_seq ?_
    refine rg ?_
    refine st (mvI rfl) ?_
    refine st (asI rfl) ?_
    refine rg_end ?_
    refine n_then ?_
    refine rg ?_
    refine st (mvS rfl) ?_
    refine st (mvI rfl) ?_
    refine st (y_ix hw_.sl sl23 rfl (hVl.symm) rfl (by omega) (by omega)) ?_
    refine sd0 (d_se (j := 0)  hw_ sz3 rfl rfl rfl (by omega) (by omega) (Nat.le_of_ble_eq_true rfl) rfl ?_)
    intro w14 hs16 ho15 hw_'
    have hrhw_ := hw_.rng
    clear hw_; have hw_ := hw_'; clear hw_'
    have hz17 := ho15.size
    replace hX := hX.out ho15 (by first | omega | (simp only [blk_some, hi1_some] at *; omega))
    replace hb := hb.out ho15 (by first | omega | (simp only [blk_some, hi1_some] at *; omega))
    replace hr := hr.out ho15 (by first | omega | (simp only [blk_some, hi1_some] at *; omega))
    replace hf := hf.out ho15 (by first | omega | (simp only [blk_some, hi1_some] at *; omega))
    replace hL := hL.out ho15 (by first | omega | (simp only [blk_some, hi1_some] at *; omega))
    replace hE := hE.step ho15 (by first | omega | (simp only [blk_some, hi1_some] at *; omega))
    replace hn_ := hn_.out ho15 (by first | omega | (simp only [blk_some, hi1_some] at *; omega))
    replace hlp0 := hlp0.step ho15 (by first | omega | (simp only [blk_some, hi1_some] at *; omega))
    refine rg_end ?_
    refine n_blk ?_
    refine n_then ?_
    refine rg ?_
    refine st (y_add rfl rfl (by omega)) ?_
    refine st (mvI rfl) ?_
    refine rg_end ?_
    exact n_then ⟨(q + 1, _), _, rfl, same_lk rfl (same_h0), ⟨rfl, trivial⟩, ⟨hlp0, by omega, by simp [hVl], fill_step hVl (by omega) hfil, hw_⟩, by first | omega | (dsimp only; omega)⟩
  ·
    try simp only [decide_eq_true_eq, decide_eq_false_iff_not, Bool.not_eq_true', Bool.not_eq_false', Bool.and_eq_true, Bool.or_eq_true, Bool.or_eq_false_iff, Bool.cond_true_right, Bool.cond_false_right, Bool.cond_true_left, Bool.cond_false_left, ne_eq, Decidable.not_not, bne_iff_ne, beq_iff_eq, beq_eq_false_iff_ne, Bool.not_true, Bool.not_false] at hc0
    have hRw := fill_rep hVl (fun p hp => hfil p (by omega))
    refine wp_exit ?_
    refine e_then (e_then (e_blk (?_)))
    refine n_then ?_
    refine wp_seq ?_
    refine wp_seq ?_
    refine rg ?_
    refine st (mvS rfl) ?_
    refine st (y_len Try.underlying46 rfl) ?_
    refine st (mvI rfl) ?_
    refine rg_end ?_
    refine n_then ?_
    refine wp_block ?_
    refine lp (γ := Nat × List Int × List Bool) [10, 11, 39, 40, 41, 42, 43, 44, 45, 46, 47, 48, 49, 50, 51, 52, 53, 54, 55, 56, 57, 58, 59, 60, 61, 62, 63, 64, 65, 66, 67, 68, 69, 70, 71, 72, 73] (fun ⟨k, V, B⟩ => [(39, .int .i64 (k : Int))]) (fun ⟨k, V, B⟩ w_ => Out bw (bn + 1) w11 w_ ∧ (k : Int) ≤ l.length ∧ V.length = S.rs.length ∧ B.length = S.rs.length ∧ Rep V (wan S (l.take k)) ∧ Rep B (nw S (l.take k)) ∧ Ow 3 encI 1 w.heap.size (bw + 1) w_ (some ⟨bw, 0, none⟩) S.rs.length V ∧ Ow 4 encB 1 w.heap.size (bn + 1) w_ (some ⟨bn, 0, none⟩) S.rs.length B) (fun ⟨k, V, B⟩ => l.length - k) (0, _, List.replicate S.rs.length false) ⟨rfl, trivial⟩ ⟨Out.refl _ _ _, by simp, hVl, by simp, hRw, Rep.repl _ _, hw_, hn_⟩ ?_
    rintro ⟨k, V, B⟩ hav_ w18 ⟨ho19, hk, hVl, hBl, hRw, hRn, hw_, hn_⟩
    have hlp1 := ho19
    have hz20 := ho19.size
    replace hX := hX.out ho19 (by first | omega | (simp only [blk_some, hi1_some] at *; omega))
    replace hb := hb.out ho19 (by first | omega | (simp only [blk_some, hi1_some] at *; omega))
    replace hr := hr.out ho19 (by first | omega | (simp only [blk_some, hi1_some] at *; omega))
    replace hf := hf.out ho19 (by first | omega | (simp only [blk_some, hi1_some] at *; omega))
    replace hL := hL.out ho19 (by first | omega | (simp only [blk_some, hi1_some] at *; omega))
    replace hE := hE.step ho19 (by first | omega | (simp only [blk_some, hi1_some] at *; omega))
    refine wp_seq ?_
    refine rg ?_
    refine st (y_lss rfl rfl) ?_
    refine rg_end ?_
    refine n_then ?_
    refine wp_seq ?_
    refine cnd rfl (fun hc1 => ?_) (fun hc1 => ?_)
    ·
      try simp only [decide_eq_true_eq, decide_eq_false_iff_not, Bool.not_eq_true', Bool.not_eq_false', Bool.and_eq_true, Bool.or_eq_true, Bool.or_eq_false_iff, Bool.cond_true_right, Bool.cond_false_right, Bool.cond_true_left, Bool.cond_false_left, ne_eq, Decidable.not_not, bne_iff_ne, beq_iff_eq, beq_eq_false_iff_ne, Bool.not_true, Bool.not_false] at hc1
      have hkl := hlk _ (el_mem (l := l) (i := (k : Int)) (by omega) hc1)
      refine wp_skip ?_
      refine n_then ?_
      refine wp_seq ?_
      refine wp_block ?_
      refine wp_seq ?_
      refine rg ?_
      refine st (y_ix hL sl46 rfl (rfl) rfl (by omega) (by omega)) ?_
      refine st (y_lw hL agg45 rfl (by omega) (by omega)) ?_
      refine sd (d_allocA zer45 ?_)
      intro b10 w21 hbb10 hs23 ho22 hb10
      have hz24 := ho22.size
      replace hX := hX.ext ho22
      replace hb := hb.ext ho22
      replace hr := hr.ext ho22
      replace hf := hf.ext ho22
      replace hL := hL.ext ho22
      replace hE := hE.step ho22 (.inl (Nat.le_refl _))
      replace hw_ := hw_.ext ho22
      replace hn_ := hn_.ext ho22
      replace hlp1 := hlp1.step ho22 (.inl (Nat.le_refl _))
      refine sd0 (d_stN hb10 rfl rfl sz45 rfl rfl ?_)
      intro w25 hs27 ho26 hb10'
      clear hb10; have hb10 := hb10'; clear hb10'
      have hz28 := ho26.size
      replace hX := hX.out ho26 (by first | omega | (simp only [blk_some, hi1_some] at *; omega))
      replace hb := hb.out ho26 (by first | omega | (simp only [blk_some, hi1_some] at *; omega))
      replace hr := hr.out ho26 (by first | omega | (simp only [blk_some, hi1_some] at *; omega))
      replace hf := hf.out ho26 (by first | omega | (simp only [blk_some, hi1_some] at *; omega))
      replace hL := hL.out ho26 (by first | omega | (simp only [blk_some, hi1_some] at *; omega))
      replace hE := hE.step ho26 (by first | omega | (simp only [blk_some, hi1_some] at *; omega))
      have hrnhw_ := hw_.rng
      replace hw_ := hw_.out ho26 (by first | omega | (simp only [blk_some, hi1_some] at *; omega))
      have hrnhn_ := hn_.rng
      replace hn_ := hn_.out ho26 (by first | omega | (simp only [blk_some, hi1_some] at *; omega))
      replace hlp1 := hlp1.step ho26 (by first | omega | (simp only [blk_some, hi1_some] at *; omega))
      refine rg_end ?_
      refine n_then ?_
      refine wp_seq ?_
      refine rgD 9 (fun w_ => Ext w25 w_) (fun i => Nat.beq i 8) mixed (by kernel_rfl) ?_
      intro w29 ho30 hs31
      refine ⟨ho30, ?_⟩
      have hx32 := ho30
      refine tn rfl (fun _ hG => mvP rfl) ?_
      refine tn rfl (fun _ hG => y_nil rfl) ?_
      refine tn rfl (fun _ hG => y_fld fld62_0 rfl) ?_
      refine tn rfl (fun _ hG => y_lb (hb.ext hG) na59 rfl rfl) ?_
      refine tn rfl (fun _ hG => y_fld fld45_0 rfl) ?_
      refine tn rfl (fun _ hG => y_lb (hb10.ext hG) na3 rfl rfl) ?_
      refine tn rfl (fun _ hG => y_ix (hr.ext hG).sl sl59 rfl (rfl) rfl (by omega) (by omega)) ?_
      refine tn rfl (fun _ hG => y_lw (hr.ext hG).sl agg64 rfl (by omega) (by omega)) ?_
      refine td rfl (d_allocA zer64 ?_)
      intro b11 w33 hbb11 hs35 ho34 hb11
      have hx36 := hx32.step ho34 (.inl (Nat.le_refl _))
      have hz37 := ho34.size
      refine ⟨hx36, ?_⟩
      refine t_end ?_
      have hz38 := hx36.size
      replace hX := hX.ext hx36
      replace hb := hb.ext hx36
      replace hr := hr.ext hx36
      replace hf := hf.ext hx36
      replace hL := hL.ext hx36
      replace hE := hE.step hx36 (.inl (Nat.le_refl _))
      replace hw_ := hw_.ext hx36
      replace hn_ := hn_.ext hx36
      replace hlp1 := hlp1.step hx36 (.inl (Nat.le_refl _))
      replace hb10 := hb10.ext hx36
      refine sd0 (d_stN hb11 rfl rfl sz64 rfl rfl ?_)
      intro w39 hs41 ho40 hb11'
      clear hb11; have hb11 := hb11'; clear hb11'
      have hz42 := ho40.size
      replace hX := hX.out ho40 (by first | omega | (simp only [blk_some, hi1_some] at *; omega))
      replace hb := hb.out ho40 (by first | omega | (simp only [blk_some, hi1_some] at *; omega))
      replace hr := hr.out ho40 (by first | omega | (simp only [blk_some, hi1_some] at *; omega))
      replace hf := hf.out ho40 (by first | omega | (simp only [blk_some, hi1_some] at *; omega))
      replace hL := hL.out ho40 (by first | omega | (simp only [blk_some, hi1_some] at *; omega))
      replace hE := hE.step ho40 (by first | omega | (simp only [blk_some, hi1_some] at *; omega))
      replace hw_ := hw_.out ho40 (by first | omega | (simp only [blk_some, hi1_some] at *; omega))
      replace hn_ := hn_.out ho40 (by first | omega | (simp only [blk_some, hi1_some] at *; omega))
      replace hlp1 := hlp1.step ho40 (by first | omega | (simp only [blk_some, hi1_some] at *; omega))
      replace hb10 := hb10.out ho40 (by first | omega | (simp only [blk_some, hi1_some] at *; omega))
      refine rg_end ?_
      refine n_then ?_
      refine wp_seq ?_
      refine rg ?_
      refine st (mvS rfl) ?_
      refine st (y_fld fld45_0 rfl) ?_
      refine st (y_lb hb10 na3 rfl rfl) ?_
      refine st (y_fld fld64_0 rfl) ?_
      refine st (y_lb hb11 na3 rfl rfl) ?_
      refine st (y_eql rfl rfl) ?_
      refine st (y_ix hn_.sl sl65 rfl (hBl.symm) rfl (by omega) (by omega)) ?_
      refine sd0 (d_se (j := 0) (e' := decide ((el S.rs (el l (k : Int)).rs).ho = -1)) hn_ sz4 rfl rfl rfl (by omega) (by omega) (Nat.le_of_ble_eq_true rfl) rfl ?_)
      intro w43 hs45 ho44 hn_'
      have hrhn_ := hn_.rng
      clear hn_; have hn_ := hn_'; clear hn_'
      have hz46 := ho44.size
      replace hX := hX.out ho44 (by first | omega | (simp only [blk_some, hi1_some] at *; omega))
      replace hb := hb.out ho44 (by first | omega | (simp only [blk_some, hi1_some] at *; omega))
      replace hr := hr.out ho44 (by first | omega | (simp only [blk_some, hi1_some] at *; omega))
      replace hf := hf.out ho44 (by first | omega | (simp only [blk_some, hi1_some] at *; omega))
      replace hL := hL.out ho44 (by first | omega | (simp only [blk_some, hi1_some] at *; omega))
      replace hE := hE.step ho44 (by first | omega | (simp only [blk_some, hi1_some] at *; omega))
      replace hw_ := hw_.out ho44 (by first | omega | (simp only [blk_some, hi1_some] at *; omega))
      replace hlp1 := hlp1.step ho44 (by first | omega | (simp only [blk_some, hi1_some] at *; omega))
      replace hb10 := hb10.out ho44 (by first | omega | (simp only [blk_some, hi1_some] at *; omega))
      replace hb11 := hb11.out ho44 (by first | omega | (simp only [blk_some, hi1_some] at *; omega))
      have hRn1 : Rep (B.set (el l (k : Int)).rs.toNat (decide ((el S.rs (el l (k : Int)).rs).ho = -1))) (nw S (l.take (k + 1))) := by rw [nw_step hc1]; exact hRn.set hkl.1 (by omega)
      refine rg_end ?_
      refine n_then ?_
      refine wp_seq ?_
      refine rg ?_
      refine st (mvS rfl) ?_
      refine st (y_fld fld45_0 rfl) ?_
      refine st (y_lb hb10 na3 rfl rfl) ?_
      refine st (y_fld fld45_1 rfl) ?_
      refine st (y_lb hb10 na3 rfl rfl) ?_
      refine st (y_ix hw_.sl sl23 rfl (hVl.symm) rfl (by omega) (by omega)) ?_
      refine sd0 (d_se (j := 0) (e' := (el l (k : Int)).po) hw_ sz3 rfl rfl rfl (by omega) (by omega) (Nat.le_of_ble_eq_true rfl) rfl ?_)
      intro w47 hs49 ho48 hw_'
      have hrhw_ := hw_.rng
      clear hw_; have hw_ := hw_'; clear hw_'
      have hz50 := ho48.size
      replace hX := hX.out ho48 (by first | omega | (simp only [blk_some, hi1_some] at *; omega))
      replace hb := hb.out ho48 (by first | omega | (simp only [blk_some, hi1_some] at *; omega))
      replace hr := hr.out ho48 (by first | omega | (simp only [blk_some, hi1_some] at *; omega))
      replace hf := hf.out ho48 (by first | omega | (simp only [blk_some, hi1_some] at *; omega))
      replace hL := hL.out ho48 (by first | omega | (simp only [blk_some, hi1_some] at *; omega))
      replace hE := hE.step ho48 (by first | omega | (simp only [blk_some, hi1_some] at *; omega))
      replace hn_ := hn_.out ho48 (by first | omega | (simp only [blk_some, hi1_some] at *; omega))
      replace hlp1 := hlp1.step ho48 (by first | omega | (simp only [blk_some, hi1_some] at *; omega))
      replace hb10 := hb10.out ho48 (by first | omega | (simp only [blk_some, hi1_some] at *; omega))
      replace hb11 := hb11.out ho48 (by first | omega | (simp only [blk_some, hi1_some] at *; omega))
      have hV1 := hRw.set (v := (el l (k : Int)).po) hkl.1 (by omega)
      refine rg_end ?_
      refine n_then ?_
      refine wp_seq ?_
      refine rg ?_
      refine st (y_fld fld45_1 rfl) ?_
      refine st (y_lb hb10 na3 rfl rfl) ?_
      refine st (y_lss rfl rfl) ?_
      refine rg_end ?_
      refine n_then ?_
      refine cnd rfl (fun hc2 => ?_) (fun hc2 => ?_)
      ·
        try simp only [decide_eq_true_eq, decide_eq_false_iff_not, Bool.not_eq_true', Bool.not_eq_false', Bool.and_eq_true, Bool.or_eq_true, Bool.or_eq_false_iff, Bool.cond_true_right, Bool.cond_false_right, Bool.cond_true_left, Bool.cond_false_left, ne_eq, Decidable.not_not, bne_iff_ne, beq_iff_eq, beq_eq_false_iff_ne, Bool.not_true, Bool.not_false] at hc2
        have hV2 : Rep ((V.set (el l (k : Int)).rs.toNat (el l (k : Int)).po).set (el l (k : Int)).rs.toNat (el S.rs (el l (k : Int)).rs).po) (wan S (l.take (k + 1))) := by
          rw [wan_step hc1, if_pos hc2]
          have h := hV1.set (v := (el S.rs (el l (k : Int)).rs).po) hkl.1 (by simp; omega)
          rw [upd_upd] at h
          exact h
        refine rg ?_
        refine st (mvS rfl) ?_
        refine st (y_fld fld45_0 rfl) ?_
        refine st (y_lb hb10 na3 rfl rfl) ?_
        refine st (y_fld fld64_1 rfl) ?_
        refine st (y_lb hb11 na3 rfl rfl) ?_
        refine st (y_ix hw_.sl sl23 rfl (by simp [hVl]) rfl (by omega) (by simp; omega)) ?_
        refine sd0 (d_se (j := 0) (e' := (el S.rs (el l (k : Int)).rs).po) hw_ sz3 rfl rfl rfl (by omega) (by simp; omega) (Nat.le_of_ble_eq_true rfl) rfl ?_)
        intro w51 hs53 ho52 hw_'
        have hrhw_ := hw_.rng
        clear hw_; have hw_ := hw_'; clear hw_'
        have hz54 := ho52.size
        replace hX := hX.out ho52 (by first | omega | (simp only [blk_some, hi1_some] at *; omega))
        replace hb := hb.out ho52 (by first | omega | (simp only [blk_some, hi1_some] at *; omega))
        replace hr := hr.out ho52 (by first | omega | (simp only [blk_some, hi1_some] at *; omega))
        replace hf := hf.out ho52 (by first | omega | (simp only [blk_some, hi1_some] at *; omega))
        replace hL := hL.out ho52 (by first | omega | (simp only [blk_some, hi1_some] at *; omega))
        replace hE := hE.step ho52 (by first | omega | (simp only [blk_some, hi1_some] at *; omega))
        replace hn_ := hn_.out ho52 (by first | omega | (simp only [blk_some, hi1_some] at *; omega))
        replace hlp1 := hlp1.step ho52 (by first | omega | (simp only [blk_some, hi1_some] at *; omega))
        replace hb10 := hb10.out ho52 (by first | omega | (simp only [blk_some, hi1_some] at *; omega))
        replace hb11 := hb11.out ho52 (by first | omega | (simp only [blk_some, hi1_some] at *; omega))
        refine rg_end ?_
        refine n_blk ?_
        refine n_then ?_
        refine rg ?_
        refine st (y_add rfl rfl (by omega)) ?_
        refine st (mvI rfl) ?_
        refine rg_end ?_
        exact n_then ⟨(k + 1, _, _), _, rfl, same_lk rfl (same_h0), ⟨rfl, trivial⟩, ⟨hlp1, by omega, by simp [hVl], by simp [hBl], hV2, hRn1, hw_, hn_⟩, by first | omega | (dsimp only; omega)⟩
      ·
        try simp only [decide_eq_true_eq, decide_eq_false_iff_not, Bool.not_eq_true', Bool.not_eq_false', Bool.and_eq_true, Bool.or_eq_true, Bool.or_eq_false_iff, Bool.cond_true_right, Bool.cond_false_right, Bool.cond_true_left, Bool.cond_false_left, ne_eq, Decidable.not_not, bne_iff_ne, beq_iff_eq, beq_eq_false_iff_ne, Bool.not_true, Bool.not_false] at hc2
        have hV2 : Rep (V.set (el l (k : Int)).rs.toNat (el l (k : Int)).po) (wan S (l.take (k + 1))) := by
          rw [wan_step hc1, if_neg (by omega)]
          exact hV1
        refine wp_skip ?_
        refine n_blk ?_
        refine n_then ?_
        refine rg ?_
        refine st (y_add rfl rfl (by omega)) ?_
        refine st (mvI rfl) ?_
        refine rg_end ?_
        exact n_then ⟨(k + 1, _, _), _, rfl, same_lk rfl (same_h0), ⟨rfl, trivial⟩, ⟨hlp1, by omega, by simp [hVl], by simp [hBl], hV2, hRn1, hw_, hn_⟩, by first | omega | (dsimp only; omega)⟩
    ·
      try simp only [decide_eq_true_eq, decide_eq_false_iff_not, Bool.not_eq_true', Bool.not_eq_false', Bool.and_eq_true, Bool.or_eq_true, Bool.or_eq_false_iff, Bool.cond_true_right, Bool.cond_false_right, Bool.cond_true_left, Bool.cond_false_left, ne_eq, Decidable.not_not, bne_iff_ne, beq_iff_eq, beq_eq_false_iff_ne, Bool.not_true, Bool.not_false] at hc1
      have hkk : l.take k = l := take_end hc1
      rw [hkk] at hRw hRn
      refine wp_exit ?_
      refine e_then (e_then (e_blk (?_)))
      refine n_then ?_
      refine wp_seq ?_
      refine rg ?_
      refine st (asS rfl) ?_
      refine rg_end ?_
      refine n_then ?_
      refine wp_seq ?_
      refine wp_seq ?_
      refine rg ?_
      refine st (mvP rfl) ?_
      refine st (y_nil rfl) ?_
      refine st (y_fld fld62_1 rfl) ?_
      refine st (y_lb hb na22 rfl rfl) ?_
      refine st (y_len Try.underlying22 rfl) ?_
      refine st (mvI rfl) ?_
      refine rg_end ?_
      refine n_then ?_
      refine wp_block ?_
      obtain ⟨z2, hz2⟩ : ∃ z, z = w18.heap.size := ⟨_, rfl⟩
      refine lp (γ := Nat × List Int × List Fk × Option Addr × Nat × (Int → Int)) [4, 5, 12, 14, 15, 79, 80, 81, 82, 83, 84, 85, 86, 87, 88, 89, 90, 91, 92, 93, 94, 95, 96, 97, 98, 99, 100, 101, 102, 103, 104, 105, 106, 107, 108, 109, 110, 111, 112, 113, 114, 115, 116, 117, 118, 119, 120, 121, 122, 123, 124, 125, 126, 127, 128, 129, 130, 131, 132, 133, 134, 135, 136, 137, 138, 139, 140, 141, 142] (fun ⟨k, V, M, am, cm, W⟩ => [(79, .int .i64 (k : Int)), (12, .slice am M.length cm)]) (fun ⟨k, V, M, am, cm, W⟩ w_ => Out bw (bw + 1) w18 w_ ∧ (k : Int) ≤ S.fl.length ∧ V.length = S.rs.length ∧ Rep V W ∧ M = movesOf (nw S l) (S.fl.take k) ∧ W = wanF (wan S l) (movesOf (nw S l) (S.fl.take k)) ∧ fkGo S (nw S l) S.fl (wan S l) = fkGo S (nw S l) (S.fl.drop k) W ∧ Ow 3 encI 1 w.heap.size (bw + 1) w_ (some ⟨bw, 0, none⟩) S.rs.length V ∧ Ow 35 encFk 3 z2 w_.heap.size w_ am cm M) (fun ⟨k, V, M, am, cm, W⟩ => S.fl.length - k) (0, _, [], none, 0, wan S l) ⟨rfl, rfl, trivial⟩ ⟨Out.refl _ _ _, by simp, hVl, hRw, by simp [movesOf], by simp [movesOf, wanF], rfl, hw_, Ow.nil (fun _ => rfl)⟩ ?_
      rintro ⟨k, V, M, am, cm, W⟩ hav_ w55 ⟨ho56, hk, hVl, hRv, hM, hW, hgo, hw_, hmv⟩
      have hlp2 := ho56
      have hz57 := ho56.size
      replace hX := hX.out ho56 (by first | omega | (simp only [blk_some, hi1_some] at *; omega))
      replace hb := hb.out ho56 (by first | omega | (simp only [blk_some, hi1_some] at *; omega))
      replace hr := hr.out ho56 (by first | omega | (simp only [blk_some, hi1_some] at *; omega))
      replace hf := hf.out ho56 (by first | omega | (simp only [blk_some, hi1_some] at *; omega))
      replace hL := hL.out ho56 (by first | omega | (simp only [blk_some, hi1_some] at *; omega))
      replace hE := hE.step ho56 (by first | omega | (simp only [blk_some, hi1_some] at *; omega))
      have hrnhn_ := hn_.rng
      replace hn_ := hn_.out ho56 (by first | omega | (simp only [blk_some, hi1_some] at *; omega))
      refine wp_seq ?_
      refine rg ?_
      refine st (y_lss rfl rfl) ?_
      refine rg_end ?_
      refine n_then ?_
      refine wp_seq ?_
      refine cnd rfl (fun hc3 => ?_) (fun hc3 => ?_)
      ·
        try simp only [decide_eq_true_eq, decide_eq_false_iff_not, Bool.not_eq_true', Bool.not_eq_false', Bool.and_eq_true, Bool.or_eq_true, Bool.or_eq_false_iff, Bool.cond_true_right, Bool.cond_false_right, Bool.cond_true_left, Bool.cond_false_left, ne_eq, Decidable.not_not, bne_iff_ne, beq_iff_eq, beq_eq_false_iff_ne, Bool.not_true, Bool.not_false] at hc3
        have hfk := hS.fl.ok _ (el_mem (l := S.fl) (i := (k : Int)) (by omega) hc3)
        have hfl := hS.fl.len
        have hmlen := mov_len (B := nw S l) (fl := S.fl) (k := k)
        rw [← hM] at hmlen
        have hVp := hRv _ hfk.2.2.1 (by omega : (el S.fl (k : Int)).pt < V.length)
        have hBp := hRn _ hfk.1 (by omega : (el S.fl (k : Int)).rs < B.length)
        refine wp_skip ?_
        refine n_then ?_
        refine wp_seq ?_
        refine wp_block ?_
        refine wp_seq ?_
        refine rg ?_
        refine st (y_ix hf sl22 rfl (rfl) rfl (by omega) (by omega)) ?_
        refine st (y_lw hf agg35 rfl (by omega) (by omega)) ?_
        refine sd (d_allocA zer35 ?_)
        intro b20 w58 hbb20 hs60 ho59 hb20
        have hz61 := ho59.size
        replace hX := hX.ext ho59
        replace hb := hb.ext ho59
        replace hr := hr.ext ho59
        replace hf := hf.ext ho59
        replace hL := hL.ext ho59
        replace hE := hE.step ho59 (.inl (Nat.le_refl _))
        replace hn_ := hn_.ext ho59
        replace hw_ := hw_.ext ho59
        replace hmv := hmv.ext ho59
        replace hlp2 := hlp2.step ho59 (.inl (Nat.le_refl _))
        refine sd0 (d_stN hb20 rfl rfl sz35 rfl rfl ?_)
        intro w62 hs64 ho63 hb20'
        clear hb20; have hb20 := hb20'; clear hb20'
        have hz65 := ho63.size
        replace hX := hX.out ho63 (by first | omega | (simp only [blk_some, hi1_some] at *; omega))
        replace hb := hb.out ho63 (by first | omega | (simp only [blk_some, hi1_some] at *; omega))
        replace hr := hr.out ho63 (by first | omega | (simp only [blk_some, hi1_some] at *; omega))
        replace hf := hf.out ho63 (by first | omega | (simp only [blk_some, hi1_some] at *; omega))
        replace hL := hL.out ho63 (by first | omega | (simp only [blk_some, hi1_some] at *; omega))
        replace hE := hE.step ho63 (by first | omega | (simp only [blk_some, hi1_some] at *; omega))
        replace hn_ := hn_.out ho63 (by first | omega | (simp only [blk_some, hi1_some] at *; omega))
        have hrnhw_ := hw_.rng
        replace hw_ := hw_.out ho63 (by first | omega | (simp only [blk_some, hi1_some] at *; omega))
        have hrnhmv := hmv.rng
        replace hmv := hmv.out ho63 (by first | omega | (simp only [blk_some, hi1_some] at *; omega))
        replace hlp2 := hlp2.step ho63 (by first | omega | (simp only [blk_some, hi1_some] at *; omega))
        refine rg_end ?_
        refine n_then ?_
        refine wp_seq ?_
        refine wp_seq ?_
        refine rg ?_
        refine st (mvS rfl) ?_
        refine st (y_fld fld35_0 rfl) ?_
        refine st (y_lb hb20 na3 rfl rfl) ?_
        refine st (y_ix hn_.sl sl65 rfl (hBl.symm) rfl (by omega) (by omega)) ?_
        refine st (y_le hn_.sl na4 rfl (by omega) (by omega) rfl) ?_
        refine st (y_not rfl) ?_
        refine rg_end ?_
        refine n_then ?_
        refine cnd rfl (fun hc4 => ?_) (fun hc4 => ?_)
        ·
          try simp only [decide_eq_true_eq, decide_eq_false_iff_not, Bool.not_eq_true', Bool.not_eq_false', Bool.and_eq_true, Bool.or_eq_true, Bool.or_eq_false_iff, Bool.cond_true_right, Bool.cond_false_right, Bool.cond_true_left, Bool.cond_false_left, ne_eq, Decidable.not_not, bne_iff_ne, beq_iff_eq, beq_eq_false_iff_ne, Bool.not_true, Bool.not_false] at hc4
          have hnew : nw S l (el S.fl (k : Int)).rs = false := hBp.symm.trans hc4
          have hM1 := hM.trans (mov_skip hc3 hnew).symm
          have hW1 := hW
          rw [← mov_skip hc3 hnew] at hW1
          have hgo1 := fkGo_skip hc3 hgo hnew
          have hV3 := hRv
          have hVl1 := hVl
          refine wp_exit ?_
          refine e_then (e_blk (?_))
          refine n_then ?_
          refine rg ?_
          refine st (y_add rfl rfl (by omega)) ?_
          refine st (mvI rfl) ?_
          refine rg_end ?_
          exact n_then ⟨(k + 1, _, _, _, _, _), _, rfl, same_lk rfl (same_h0), ⟨rfl, rfl, trivial⟩, ⟨hlp2, by omega, hVl1, hV3, hM1, hW1, hgo1, hw_, hmv.wide (by omega)⟩, by first | omega | (dsimp only; omega)⟩
        ·
          try simp only [decide_eq_true_eq, decide_eq_false_iff_not, Bool.not_eq_true', Bool.not_eq_false', Bool.and_eq_true, Bool.or_eq_true, Bool.or_eq_false_iff, Bool.cond_true_right, Bool.cond_false_right, Bool.cond_true_left, Bool.cond_false_left, ne_eq, Decidable.not_not, bne_iff_ne, beq_iff_eq, beq_eq_false_iff_ne, Bool.not_true, Bool.not_false] at hc4
          have hnew : nw S l (el S.fl (k : Int)).rs = true := hBp.symm.trans hc4
          refine wp_skip ?_
          refine n_then ?_
          refine wp_seq ?_
          refine rgD 9 (fun w_ => Ext w62 w_) (fun i => Nat.beq i 8) mixed (by kernel_rfl) ?_
          intro w66 ho67 hs68
          refine ⟨ho67, ?_⟩
          have hx69 := ho67
          refine tn rfl (fun _ hG => mvP rfl) ?_
          refine tn rfl (fun _ hG => y_nil rfl) ?_
          refine tn rfl (fun _ hG => y_fld fld62_0 rfl) ?_
          refine tn rfl (fun _ hG => y_lb (hb.ext hG) na59 rfl rfl) ?_
          refine tn rfl (fun _ hG => y_fld fld35_1 rfl) ?_
          refine tn rfl (fun _ hG => y_lb (hb20.ext hG) na3 rfl rfl) ?_
          refine tn rfl (fun _ hG => y_ix (hr.ext hG).sl sl59 rfl (rfl) rfl (by omega) (by omega)) ?_
          refine tn rfl (fun _ hG => y_lw (hr.ext hG).sl agg64 rfl (by omega) (by omega)) ?_
          refine td rfl (d_allocA zer64 ?_)
          intro b22 w70 hbb22 hs72 ho71 hb22
          have hx73 := hx69.step ho71 (.inl (Nat.le_refl _))
          have hz74 := ho71.size
          refine ⟨hx73, ?_⟩
          refine t_end ?_
          have hz75 := hx73.size
          replace hX := hX.ext hx73
          replace hb := hb.ext hx73
          replace hr := hr.ext hx73
          replace hf := hf.ext hx73
          replace hL := hL.ext hx73
          replace hE := hE.step hx73 (.inl (Nat.le_refl _))
          replace hn_ := hn_.ext hx73
          replace hw_ := hw_.ext hx73
          replace hmv := hmv.ext hx73
          replace hlp2 := hlp2.step hx73 (.inl (Nat.le_refl _))
          replace hb20 := hb20.ext hx73
          refine sd0 (d_stN hb22 rfl rfl sz64 rfl rfl ?_)
          intro w76 hs78 ho77 hb22'
          clear hb22; have hb22 := hb22'; clear hb22'
          have hz79 := ho77.size
          replace hX := hX.out ho77 (by first | omega | (simp only [blk_some, hi1_some] at *; omega))
          replace hb := hb.out ho77 (by first | omega | (simp only [blk_some, hi1_some] at *; omega))
          replace hr := hr.out ho77 (by first | omega | (simp only [blk_some, hi1_some] at *; omega))
          replace hf := hf.out ho77 (by first | omega | (simp only [blk_some, hi1_some] at *; omega))
          replace hL := hL.out ho77 (by first | omega | (simp only [blk_some, hi1_some] at *; omega))
          replace hE := hE.step ho77 (by first | omega | (simp only [blk_some, hi1_some] at *; omega))
          replace hn_ := hn_.out ho77 (by first | omega | (simp only [blk_some, hi1_some] at *; omega))
          replace hw_ := hw_.out ho77 (by first | omega | (simp only [blk_some, hi1_some] at *; omega))
          replace hmv := hmv.out ho77 (by first | omega | (simp only [blk_some, hi1_some] at *; omega))
          replace hlp2 := hlp2.step ho77 (by first | omega | (simp only [blk_some, hi1_some] at *; omega))
          replace hb20 := hb20.out ho77 (by first | omega | (simp only [blk_some, hi1_some] at *; omega))
          refine rg_end ?_
          refine n_then ?_
          refine wp_seq ?_
          refine wp_block ?_
          refine cut (γ := Unit) [97, 98, 99, 100, 101, 102, 103, 104, 105, 106, 107, 108, 109, 110, 111, 112, 113] (fun _ => [(97, .bool (clash W (el S.fl (k : Int))))]) (fun _ w_ => Ext w76 w_ ∧ True) ?_ ?_
          ·
            have hcut := Out.refl 0 0 w76
            refine rgD 14 (fun w_ => Ext w76 w_) (fun i => false) mixed (by kernel_rfl) ?_
            intro w80 ho81 hs82
            refine ⟨ho81, ?_⟩
            have hx83 := ho81
            refine tn rfl (fun _ hG => mvS rfl) ?_
            refine tn rfl (fun _ hG => y_fld fld35_1 rfl) ?_
            refine tn rfl (fun _ hG => y_lb (hb20.ext hG) na3 rfl rfl) ?_
            refine tn rfl (fun _ hG => y_ix (hw_.ext hG).sl sl23 rfl (hVl.symm) rfl (by omega) (by omega)) ?_
            refine tn rfl (fun _ hG => y_le (hw_.ext hG).sl na3 rfl (by omega) (by omega) rfl) ?_
            refine tn rfl (fun _ hG => y_geq rfl rfl) ?_
            refine tn rfl (fun _ hG => mvB rfl) ?_
            refine gspT 104 rfl (fun hg84 => ?_) (fun hg84 => ?_)
            ·
              have hg84n := hg84; try simp only [decide_eq_true_eq, decide_eq_false_iff_not, Bool.not_eq_true', Bool.not_eq_false', Bool.and_eq_true, Bool.or_eq_true, Bool.or_eq_false_iff, Bool.cond_true_right, Bool.cond_false_right, Bool.cond_true_left, Bool.cond_false_left, ne_eq, Decidable.not_not, bne_iff_ne, beq_iff_eq, beq_eq_false_iff_ne, Bool.not_true, Bool.not_false] at hg84n
              refine tng rfl rfl rfl hg84 (fun _ hG => mvS rfl) ?_
              refine tng rfl rfl rfl hg84 (fun _ hG => y_fld fld35_1 rfl) ?_
              refine tng rfl rfl rfl hg84 (fun _ hG => y_lb (hb20.ext hG) na3 rfl rfl) ?_
              refine tng rfl rfl rfl hg84 (fun _ hG => y_ix (hw_.ext hG).sl sl23 rfl (hVl.symm) rfl (by omega) (by omega)) ?_
              refine tng rfl rfl rfl hg84 (fun _ hG => y_le (hw_.ext hG).sl na3 rfl (by omega) (by omega) rfl) ?_
              refine tng rfl rfl rfl hg84 (fun _ hG => y_fld fld35_2 rfl) ?_
              refine tng rfl rfl rfl hg84 (fun _ hG => y_lb (hb20.ext hG) na3 rfl rfl) ?_
              refine t_end ?_
              have hz85 := hx83.size
              replace hX := hX.ext hx83
              replace hb := hb.ext hx83
              replace hr := hr.ext hx83
              replace hf := hf.ext hx83
              replace hL := hL.ext hx83
              replace hE := hE.step hx83 (.inl (Nat.le_refl _))
              replace hn_ := hn_.ext hx83
              replace hw_ := hw_.ext hx83
              replace hmv := hmv.ext hx83
              replace hlp2 := hlp2.step hx83 (.inl (Nat.le_refl _))
              replace hb20 := hb20.ext hx83
              replace hb22 := hb22.ext hx83
              replace hcut := hcut.step hx83 (.inl (Nat.le_refl _))
              refine stg rfl rfl hg84 (y_neq rfl rfl) ?_
              refine st (y_pickT rfl hg84 (v := .bool _) rfl) ?_
              refine st (asB rfl) ?_
              refine rg_end ?_
              exact n_then ⟨(), _, rfl, same_lk rfl (same_rfl), ⟨vb (by simp only [clash, ← hVp, decide_eq_true_eq, decide_eq_false_iff_not, Bool.not_eq_true', Bool.not_eq_eq_eq_not, Bool.not_true, Bool.false_eq_true, false_iff, true_iff, iff_true, iff_false]; omega), trivial⟩, ⟨hcut, trivial⟩⟩
            ·
              have hg84n := hg84; try simp only [decide_eq_true_eq, decide_eq_false_iff_not, Bool.not_eq_true', Bool.not_eq_false', Bool.and_eq_true, Bool.or_eq_true, Bool.or_eq_false_iff, Bool.cond_true_right, Bool.cond_false_right, Bool.cond_true_left, Bool.cond_false_left, ne_eq, Decidable.not_not, bne_iff_ne, beq_iff_eq, beq_eq_false_iff_ne, Bool.not_true, Bool.not_false] at hg84n
              refine tns rfl rfl hg84 ?_
              refine tns rfl rfl hg84 ?_
              refine tns rfl rfl hg84 ?_
              refine tns rfl rfl hg84 ?_
              refine tns rfl rfl hg84 ?_
              refine tns rfl rfl hg84 ?_
              refine tns rfl rfl hg84 ?_
              refine t_end ?_
              have hz86 := hx83.size
              replace hX := hX.ext hx83
              replace hb := hb.ext hx83
              replace hr := hr.ext hx83
              replace hf := hf.ext hx83
              replace hL := hL.ext hx83
              replace hE := hE.step hx83 (.inl (Nat.le_refl _))
              replace hn_ := hn_.ext hx83
              replace hw_ := hw_.ext hx83
              replace hmv := hmv.ext hx83
              replace hlp2 := hlp2.step hx83 (.inl (Nat.le_refl _))
              replace hb20 := hb20.ext hx83
              replace hb22 := hb22.ext hx83
              replace hcut := hcut.step hx83 (.inl (Nat.le_refl _))
              refine sts rfl rfl hg84 ?_
              refine st (y_pickF rfl hg84 (v := .bool _) rfl) ?_
              refine st (asB rfl) ?_
              refine rg_end ?_
              exact n_then ⟨(), _, rfl, same_lk rfl (same_rfl), ⟨vb (by simp only [clash, ← hVp, decide_eq_true_eq, decide_eq_false_iff_not, Bool.not_eq_true', Bool.not_eq_eq_eq_not, Bool.not_true, Bool.false_eq_true, false_iff, true_iff, iff_true, iff_false]; omega), trivial⟩, ⟨hcut, trivial⟩⟩
          ·
            rintro _ hav_ w87 ⟨ho88, _⟩
            have hz89 := ho88.size
            replace hX := hX.ext ho88
            replace hb := hb.ext ho88
            replace hr := hr.ext ho88
            replace hf := hf.ext ho88
            replace hL := hL.ext ho88
            replace hE := hE.step ho88 (.inl (Nat.le_refl _))
            replace hn_ := hn_.ext ho88
            replace hw_ := hw_.ext ho88
            replace hmv := hmv.ext ho88
            replace hlp2 := hlp2.step ho88 (.inl (Nat.le_refl _))
            replace hb20 := hb20.ext ho88
            replace hb22 := hb22.ext ho88
            refine cnd rfl (fun hc5 => ?_) (fun hc5 => ?_)
            ·
              try simp only [decide_eq_true_eq, decide_eq_false_iff_not, Bool.not_eq_true', Bool.not_eq_false', Bool.and_eq_true, Bool.or_eq_true, Bool.or_eq_false_iff, Bool.cond_true_right, Bool.cond_false_right, Bool.cond_true_left, Bool.cond_false_left, ne_eq, Decidable.not_not, bne_iff_ne, beq_iff_eq, beq_eq_false_iff_ne, Bool.not_true, Bool.not_false] at hc5
              refine wp_seq ?_
              refine rg ?_
              refine st (asS rfl) ?_
              refine st (asI rfl) ?_
              refine rg_end ?_
              refine n_then ?_
              refine wp_ret ?_
              refine r_blk (r_then (r_blk (r_then (r_then (r_blk (r_then (ret2 (v := (.slice _ _ _)) (v' := (.int .i64 _)) Try.results39 rfl rfl ?_)))))))
              exact ⟨none, 0, [], 13, rfl, (fkGo_clash hc3 hgo hnew hc5).symm, (fun h => by cases h), ⟨fun h => absurd rfl h, fun i x hx => by simp at hx⟩, hE⟩
            ·
              try simp only [decide_eq_true_eq, decide_eq_false_iff_not, Bool.not_eq_true', Bool.not_eq_false', Bool.and_eq_true, Bool.or_eq_true, Bool.or_eq_false_iff, Bool.cond_true_right, Bool.cond_false_right, Bool.cond_true_left, Bool.cond_false_left, ne_eq, Decidable.not_not, bne_iff_ne, beq_iff_eq, beq_eq_false_iff_ne, Bool.not_true, Bool.not_false] at hc5
              refine cut (γ := Unit) [114, 115, 116, 117, 118, 119, 120, 121, 122, 123, 124, 125, 126, 127, 128, 129, 130, 131] (fun _ => [(114, .bool (jam S (el S.fl (k : Int))))]) (fun _ w_ => Ext w87 w_ ∧ True) ?_ ?_
              ·
                have hcut := Out.refl 0 0 w87
                refine rg ?_
                refine st (y_fld fld64_1 rfl) ?_
                refine st (y_lb hb22 na3 rfl rfl) ?_
                refine st (y_fld fld35_2 rfl) ?_
                refine st (y_lb hb20 na3 rfl rfl) ?_
                refine st (y_neq rfl rfl) ?_
                refine st (mvB rfl) ?_
                refine gspL 120 rfl (fun hg90 => ?_) (fun hg90 => ?_)
                ·
                  have hg90n := hg90; try simp only [decide_eq_true_eq, decide_eq_false_iff_not, Bool.not_eq_true', Bool.not_eq_false', Bool.and_eq_true, Bool.or_eq_true, Bool.or_eq_false_iff, Bool.cond_true_right, Bool.cond_false_right, Bool.cond_true_left, Bool.cond_false_left, ne_eq, Decidable.not_not, bne_iff_ne, beq_iff_eq, beq_eq_false_iff_ne, Bool.not_true, Bool.not_false] at hg90n
                  refine stg rfl rfl hg90 (y_fld fld64_0 rfl) ?_
                  refine stg rfl rfl hg90 (y_lb hb22 na3 rfl rfl) ?_
                  refine stg rfl rfl hg90 (y_neq rfl rfl) ?_
                  refine stg rfl rfl hg90 (mvB rfl) ?_
                  refine gspL 124 rfl (fun hg91 => ?_) (fun hg91 => ?_)
                  ·
                    have hg91n := hg91; try simp only [decide_eq_true_eq, decide_eq_false_iff_not, Bool.not_eq_true', Bool.not_eq_false', Bool.and_eq_true, Bool.or_eq_true, Bool.or_eq_false_iff, Bool.cond_true_right, Bool.cond_false_right, Bool.cond_true_left, Bool.cond_false_left, ne_eq, Decidable.not_not, bne_iff_ne, beq_iff_eq, beq_eq_false_iff_ne, Bool.not_true, Bool.not_false] at hg91n
                    refine sts rfl rfl hg91 ?_
                    refine sts rfl rfl hg91 ?_
                    refine sts rfl rfl hg91 ?_
                    refine sts rfl rfl hg91 ?_
                    refine sts rfl rfl hg91 ?_
                    refine stg rfl rfl hg90 (y_pickT rfl hg91 (v := .bool _) rfl) ?_
                    refine st (y_pickT rfl hg90 (v := .bool _) rfl) ?_
                    refine st (asB rfl) ?_
                    refine rg_end ?_
                    exact n_then ⟨(), _, rfl, same_lk rfl (same_rfl), ⟨vb (by simp only [jam, decide_eq_true_eq, decide_eq_false_iff_not, Bool.not_eq_true', Bool.not_eq_eq_eq_not, Bool.not_true, Bool.false_eq_true, false_iff, true_iff, iff_true, iff_false]; omega), trivial⟩, ⟨hcut, trivial⟩⟩
                  ·
                    have hg91n := hg91; try simp only [decide_eq_true_eq, decide_eq_false_iff_not, Bool.not_eq_true', Bool.not_eq_false', Bool.and_eq_true, Bool.or_eq_true, Bool.or_eq_false_iff, Bool.cond_true_right, Bool.cond_false_right, Bool.cond_true_left, Bool.cond_false_left, ne_eq, Decidable.not_not, bne_iff_ne, beq_iff_eq, beq_eq_false_iff_ne, Bool.not_true, Bool.not_false] at hg91n
                    refine stg rfl rfl hg91 (mvP rfl) ?_
                    refine stg rfl rfl hg91 (y_fld fld35_1 rfl) ?_
                    refine stg rfl rfl hg91 (y_lb hb20 na3 rfl rfl) ?_
                    refine scg rfl rfl hg91 cl19 (ilk_Flanks_ok S _ _ _ _ _ hX hS) rfl ?_
                    rintro v96 w92 ⟨rfl, ho93⟩
                    have hz97 := ho93.size
                    replace hX := hX.ext ho93
                    replace hb := hb.ext ho93
                    replace hr := hr.ext ho93
                    replace hf := hf.ext ho93
                    replace hL := hL.ext ho93
                    replace hE := hE.step ho93 (.inl (Nat.le_refl _))
                    replace hn_ := hn_.ext ho93
                    replace hw_ := hw_.ext ho93
                    replace hmv := hmv.ext ho93
                    replace hlp2 := hlp2.step ho93 (.inl (Nat.le_refl _))
                    replace hb20 := hb20.ext ho93
                    replace hb22 := hb22.ext ho93
                    replace hcut := hcut.step ho93 (.inl (Nat.le_refl _))
                    refine stg rfl rfl hg91 (y_gtr rfl rfl) ?_
                    refine stg rfl rfl hg90 (y_pickF rfl hg91 (v := .bool _) rfl) ?_
                    refine st (y_pickT rfl hg90 (v := .bool _) rfl) ?_
                    refine st (asB rfl) ?_
                    refine rg_end ?_
                    exact n_then ⟨(), _, rfl, same_lk rfl (same_rfl), ⟨vb (by simp only [jam, decide_eq_true_eq, decide_eq_false_iff_not, Bool.not_eq_true', Bool.not_eq_eq_eq_not, Bool.not_true, Bool.false_eq_true, false_iff, true_iff, iff_true, iff_false]; omega), trivial⟩, ⟨hcut, trivial⟩⟩
                ·
                  have hg90n := hg90; try simp only [decide_eq_true_eq, decide_eq_false_iff_not, Bool.not_eq_true', Bool.not_eq_false', Bool.and_eq_true, Bool.or_eq_true, Bool.or_eq_false_iff, Bool.cond_true_right, Bool.cond_false_right, Bool.cond_true_left, Bool.cond_false_left, ne_eq, Decidable.not_not, bne_iff_ne, beq_iff_eq, beq_eq_false_iff_ne, Bool.not_true, Bool.not_false] at hg90n
                  refine sts rfl rfl hg90 ?_
                  refine sts rfl rfl hg90 ?_
                  refine sts rfl rfl hg90 ?_
                  refine sts rfl rfl hg90 ?_
                  refine stu rfl rfl ?_
                  refine stu rfl rfl ?_
                  refine stu rfl rfl ?_
                  refine stu rfl rfl ?_
                  refine stu rfl rfl ?_
                  refine sts rfl rfl hg90 ?_
                  refine st (y_pickF rfl hg90 (v := .bool _) rfl) ?_
                  refine st (asB rfl) ?_
                  refine rg_end ?_
                  exact n_then ⟨(), _, rfl, same_lk rfl (same_rfl), ⟨vb (by simp only [jam, decide_eq_true_eq, decide_eq_false_iff_not, Bool.not_eq_true', Bool.not_eq_eq_eq_not, Bool.not_true, Bool.false_eq_true, false_iff, true_iff, iff_true, iff_false]; omega), trivial⟩, ⟨hcut, trivial⟩⟩
              ·
                rintro _ hav_ w98 ⟨ho99, _⟩
                have hz100 := ho99.size
                replace hX := hX.ext ho99
                replace hb := hb.ext ho99
                replace hr := hr.ext ho99
                replace hf := hf.ext ho99
                replace hL := hL.ext ho99
                replace hE := hE.step ho99 (.inl (Nat.le_refl _))
                replace hn_ := hn_.ext ho99
                replace hw_ := hw_.ext ho99
                replace hmv := hmv.ext ho99
                replace hlp2 := hlp2.step ho99 (.inl (Nat.le_refl _))
                replace hb20 := hb20.ext ho99
                replace hb22 := hb22.ext ho99
                refine cnd rfl (fun hc6 => ?_) (fun hc6 => ?_)
                ·
                  try simp only [decide_eq_true_eq, decide_eq_false_iff_not, Bool.not_eq_true', Bool.not_eq_false', Bool.and_eq_true, Bool.or_eq_true, Bool.or_eq_false_iff, Bool.cond_true_right, Bool.cond_false_right, Bool.cond_true_left, Bool.cond_false_left, ne_eq, Decidable.not_not, bne_iff_ne, beq_iff_eq, beq_eq_false_iff_ne, Bool.not_true, Bool.not_false] at hc6
                  refine wp_seq ?_
                  refine rg ?_
                  refine st (asS rfl) ?_
                  refine st (asI rfl) ?_
                  refine rg_end ?_
                  refine n_then ?_
                  refine wp_ret ?_
                  refine r_blk (r_then (r_blk (r_then (r_then (r_blk (r_then (ret2 (v := (.slice _ _ _)) (v' := (.int .i64 _)) Try.results39 rfl rfl ?_)))))))
                  exact ⟨none, 0, [], 17, rfl, (fkGo_stuck hc3 hgo hnew hc5 hc6).symm, (fun h => by cases h), ⟨fun h => absurd rfl h, fun i x hx => by simp at hx⟩, hE⟩
                ·
                  try simp only [decide_eq_true_eq, decide_eq_false_iff_not, Bool.not_eq_true', Bool.not_eq_false', Bool.and_eq_true, Bool.or_eq_true, Bool.or_eq_false_iff, Bool.cond_true_right, Bool.cond_false_right, Bool.cond_true_left, Bool.cond_false_left, ne_eq, Decidable.not_not, bne_iff_ne, beq_iff_eq, beq_eq_false_iff_ne, Bool.not_true, Bool.not_false] at hc6
                  refine wp_skip ?_
                  refine n_blk ?_
                  refine n_then ?_
                  refine wp_seq ?_
                  refine rg ?_
                  refine st (mvS rfl) ?_
                  refine st (y_fld fld35_1 rfl) ?_
                  refine st (y_lb hb20 na3 rfl rfl) ?_
                  refine st (y_fld fld35_2 rfl) ?_
                  refine st (y_lb hb20 na3 rfl rfl) ?_
                  refine st (y_ix hw_.sl sl23 rfl (hVl.symm) rfl (by omega) (by omega)) ?_
                  refine sd0 (d_se (j := 0) (e' := (el S.fl (k : Int)).po) hw_ sz3 rfl rfl rfl (by omega) (by omega) (Nat.le_of_ble_eq_true rfl) rfl ?_)
                  intro w101 hs103 ho102 hw_'
                  have hrhw_ := hw_.rng
                  clear hw_; have hw_ := hw_'; clear hw_'
                  have hz104 := ho102.size
                  replace hX := hX.out ho102 (by first | omega | (simp only [blk_some, hi1_some] at *; omega))
                  replace hb := hb.out ho102 (by first | omega | (simp only [blk_some, hi1_some] at *; omega))
                  replace hr := hr.out ho102 (by first | omega | (simp only [blk_some, hi1_some] at *; omega))
                  replace hf := hf.out ho102 (by first | omega | (simp only [blk_some, hi1_some] at *; omega))
                  replace hL := hL.out ho102 (by first | omega | (simp only [blk_some, hi1_some] at *; omega))
                  replace hE := hE.step ho102 (by first | omega | (simp only [blk_some, hi1_some] at *; omega))
                  replace hn_ := hn_.out ho102 (by first | omega | (simp only [blk_some, hi1_some] at *; omega))
                  replace hmv := hmv.out ho102 (by first | omega | (simp only [blk_some, hi1_some] at *; omega))
                  replace hlp2 := hlp2.step ho102 (by first | omega | (simp only [blk_some, hi1_some] at *; omega))
                  replace hb20 := hb20.out ho102 (by first | omega | (simp only [blk_some, hi1_some] at *; omega))
                  replace hb22 := hb22.out ho102 (by first | omega | (simp only [blk_some, hi1_some] at *; omega))
                  have hV3 := hRv.set (v := (el S.fl (k : Int)).po) hfk.2.2.1 (by omega)
                  have hVl1 : (V.set (el S.fl (k : Int)).pt.toNat (el S.fl (k : Int)).po).length = S.rs.length := by simp [hVl]
                  have hgo1 := fkGo_step hc3 hgo hnew hc5 hc6
                  have hM1 : M ++ [el S.fl (k : Int)] = movesOf (nw S l) (S.fl.take (k + 1)) := by rw [mov_step hc3 hnew, hM]
                  have hW1 : upd W (el S.fl (k : Int)).pt (el S.fl (k : Int)).po = wanF (wan S l) (movesOf (nw S l) (S.fl.take (k + 1))) := by rw [mov_step hc3 hnew, wanF_snoc, hW]
                  refine rg_end ?_
                  refine n_then ?_
                  refine rg ?_
                  refine st (mvS rfl) ?_
                  refine st (y_lbN hb20 agg35 rfl) ?_
                  refine sd (d_bs (bsl22_1 _ _ _ _) rfl ?_)
                  intro bl108 w105 hbbl108 hs107 ho106 hbl108
                  have hz109 := ho106.size
                  replace hX := hX.ext ho106
                  replace hb := hb.ext ho106
                  replace hr := hr.ext ho106
                  replace hf := hf.ext ho106
                  replace hL := hL.ext ho106
                  replace hE := hE.step ho106 (.inl (Nat.le_refl _))
                  replace hn_ := hn_.ext ho106
                  replace hw_ := hw_.ext ho106
                  replace hmv := hmv.ext ho106
                  replace hlp2 := hlp2.step ho106 (.inl (Nat.le_refl _))
                  replace hb20 := hb20.ext ho106
                  replace hb22 := hb22.ext ho106
                  have hrhmv := hmv.rng
                  refine sd (d_app (xs := [el S.fl (k : Int)]) hmv sl22 infoz35 (by decide) rfl rfl rfl rfl (hbl108) (fun _ => rfl) (by simp; unfold maxLen; omega) (by simp; omega) (by omega) (by omega) ?_)
                  intro am1 cm1 w110 ho111 hmv'
                  have hs112 := ho111.size
                  clear hmv; have hmv := hmv'; clear hmv'
                  have hz115 := ho111.size
                  replace hX := hX.out ho111 (by first | omega | (simp only [blk_some, hi1_some] at *; omega))
                  replace hb := hb.out ho111 (by first | omega | (simp only [blk_some, hi1_some] at *; omega))
                  replace hr := hr.out ho111 (by first | omega | (simp only [blk_some, hi1_some] at *; omega))
                  replace hf := hf.out ho111 (by first | omega | (simp only [blk_some, hi1_some] at *; omega))
                  replace hL := hL.out ho111 (by first | omega | (simp only [blk_some, hi1_some] at *; omega))
                  replace hE := hE.step ho111 (by first | omega | (simp only [blk_some, hi1_some] at *; omega))
                  replace hn_ := hn_.out ho111 (by first | omega | (simp only [blk_some, hi1_some] at *; omega))
                  replace hw_ := hw_.out ho111 (by first | omega | (simp only [blk_some, hi1_some] at *; omega))
                  replace hlp2 := hlp2.step ho111 (by first | omega | (simp only [blk_some, hi1_some] at *; omega))
                  replace hb20 := hb20.out ho111 (by first | omega | (simp only [blk_some, hi1_some] at *; omega))
                  replace hb22 := hb22.out ho111 (by first | omega | (simp only [blk_some, hi1_some] at *; omega))
                  refine st (asS rfl) ?_
                  refine rg_end ?_
                  refine n_blk ?_
                  refine n_then ?_
                  refine rg ?_
                  refine st (y_add rfl rfl (by omega)) ?_
                  refine st (mvI rfl) ?_
                  refine rg_end ?_
                  exact n_then ⟨(k + 1, _, _, _, _, _), _, rfl, same_lk rfl (same_hav rfl (same_lk rfl (same_hav rfl (same_lk rfl (same_h0))))), ⟨rfl, rfl, trivial⟩, ⟨hlp2, by omega, hVl1, hV3, hM1, hW1, hgo1, hw_, hmv.wide (by omega)⟩, by first | omega | (dsimp only; omega)⟩
      ·
        try simp only [decide_eq_true_eq, decide_eq_false_iff_not, Bool.not_eq_true', Bool.not_eq_false', Bool.and_eq_true, Bool.or_eq_true, Bool.or_eq_false_iff, Bool.cond_true_right, Bool.cond_false_right, Bool.cond_true_left, Bool.cond_false_left, ne_eq, Decidable.not_not, bne_iff_ne, beq_iff_eq, beq_eq_false_iff_ne, Bool.not_true, Bool.not_false] at hc3
        refine wp_exit ?_
        refine e_then (e_then (e_blk (?_)))
        refine n_then ?_
        refine wp_seq ?_
        refine rg ?_
        refine st (mvS rfl) ?_
        refine st (asS rfl) ?_
        refine st (asI rfl) ?_
        refine rg_end ?_
        refine n_then ?_
        refine wp_ret ?_
        refine ret2 (v := (.slice _ _ _)) (v' := (.int .i64 _)) Try.results39 rfl rfl ?_
        exact ⟨am, cm, M, 0, rfl, (fkGo_end hc3 hgo).symm, fun _ => by rw [hM, take_end hc3], Sl.wide hmv.sl (by omega) (Nat.le_refl _), hE⟩
end Go.Proofs.Ytciljdhihnnfiaa
