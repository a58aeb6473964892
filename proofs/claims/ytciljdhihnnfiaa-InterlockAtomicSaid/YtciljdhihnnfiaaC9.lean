/-
  Walks of the functions, printed by a program out of the code and the loops' relations.
-/
import Derived.Test.YtciljdhihnnfiaaWkG
import Derived.Test.YtciljdhihnnfiaaProg
import Derived.KernelRfl
import Derived.Test.YtciljdhihnnfiaaC8
import Derived.Test.YtciljdhihnnfiaaIly
namespace Go.Proofs.Ytciljdhihnnfiaa
open Go.Wk Go.RowKit
set_option linter.unusedVariables false
set_option linter.unusedSimpArgs false
theorem cl11 : Callable Try.prog 11 := ⟨Try.call11⟩
theorem cl16 : Callable Try.prog 16 := ⟨Try.call16⟩
theorem cl20 : Callable Try.prog 20 := ⟨Try.call20⟩
theorem cl28 : Callable Try.prog 28 := ⟨Try.call28⟩
theorem cl29 : Callable Try.prog 29 := ⟨Try.call29⟩
theorem cl30 : Callable Try.prog 30 := ⟨Try.call30⟩
theorem cl31 : Callable Try.prog 31 := ⟨Try.call31⟩
theorem cl32 : Callable Try.prog 32 := ⟨Try.call32⟩
theorem cl33 : Callable Try.prog 33 := ⟨Try.call33⟩
theorem cl40 : Callable Try.prog 40 := ⟨Try.call40⟩
theorem cl41 : Callable Try.prog 41 := ⟨Try.call41⟩
theorem cl42 : Callable Try.prog 42 := ⟨Try.call42⟩
theorem cl43 : Callable Try.prog 43 := ⟨Try.call43⟩
theorem ptr28 : Try.prog.underlying 28 = some (.pointer (Try.prog.pointee 28)) := by kernel_rfl

theorem Ilk.named {lo hi b : Nat} {w : World} {S : IS} (h : Ilk lo hi b w S) : ∃ lo' hi', lo' = lo ∧ hi' = hi ∧ Ilk lo' hi' b w S := ⟨lo, hi, rfl, rfl, h⟩
theorem Rlk.named {lo hi b : Nat} {w : World} {S : IS} (h : Rlk lo hi b w S) : ∃ lo' hi', lo' = lo ∧ hi' = hi ∧ Rlk lo' hi' b w S := ⟨lo, hi, rfl, rfl, h⟩
theorem Ilk.rng {lo hi b : Nat} {w : World} {S : IS} (h : Ilk lo hi b w S) : lo ≤ b ∧ b < hi ∧ hi ≤ w.heap.size := by
  obtain ⟨ar, cr, af, cf, l2, h2, hb, hr, hf, h1, h3, h4, h5, h6, h7, h8⟩ := h.ex
  exact ⟨h4, h5, h6⟩
structure Kept (a b : Nat) (w0 w : World) : Prop where
  top : b ≤ w.heap.size
  block : ∀ k, a ≤ k → k < b → w.heap[k]? = w0.heap[k]?
theorem Kept.out {a b : Nat} {w0 w w' : World} {p q : Nat} (h : Kept a b w0 w) (ho : Out p q w w') (hs : b ≤ p ∨ q ≤ a ∨ q ≤ p) : Kept a b w0 w' :=
  ⟨Nat.le_trans h.top ho.size, fun k h1 h2 => (ho.block k (by have := h.top; omega) (by omega)).trans (h.block k h1 h2)⟩
theorem Kept.ext {a b : Nat} {w0 w w' : World} (h : Kept a b w0 w) (ho : Ext w w') : Kept a b w0 w' := h.out ho (.inr (.inr (Nat.le_refl _)))
theorem Sl.kept {α : Type} {enc : α → List Value} {sz lo hi a b : Nat} {w w' : World} {ad : Option Addr} {l : List α} (h : Sl enc sz lo hi w ad l) (hk : Kept a b w w') (h1 : a ≤ lo) (h2 : hi ≤ b) : Sl enc sz lo hi w' ad l :=
  ⟨h.plain, fun i x hx j y hy => by
    have hne : l ≠ [] := by intro he; subst he; simp at hx
    have hp := h.plain hne
    exact (World.cell?_of_block (hk.block (blk ad) (by omega) (by omega))).trans (h.cell i x hx j y hy)⟩
theorem Rlk.rng {lo hi b : Nat} {w : World} {S : IS} (h : Rlk lo hi b w S) : lo ≤ b ∧ b < hi ∧ hi ≤ w.heap.size := by
  obtain ⟨ah, ch, ap, cp, ar, cr, ac, cc, au, cu, l2, h2, hb, hh, hp, hr, hc, hf, h3, h4, h5, h6, h7, h8⟩ := h.ex
  exact ⟨h5, h6, h7⟩

set_option maxRecDepth 100000 in
theorem law32_flankCount_ok (S : IS) (lo hi b : Nat) (r : Int) (w : World) (hX : Rlk lo hi b w S) (hS : IsOk S)  : Cal Try.prog 42 [.pointer (some ⟨b, 0, none⟩), .int .i64 r] w (fun v w' => v = .int .i64 (flk S r) ∧ Ext w w') := by
  obtain ⟨ah, ch, ap, cp, ar, cr, ac, cc, au, cu, l2, h2, hb, hh, hp, hr, hc_, hf, hl2, hh2, hlb, hbh, hhi, hsp⟩ := hX.ex
  have hbl := hb.lt
  have hpos : 0 < w.heap.size := by omega
  have hx1 := hh.blt hpos
  have hx2 := hp.blt hpos
  have hx3 := hr.blt hpos
  have hx4 := hc_.blt hpos
  have hn1 := hS.n1
  have hn2 := hS.n2
  have hlh : (S.rs.map Rs.ho).length = S.rs.length := by simp
  have hlp : (S.rs.map Rs.po).length = S.rs.length := by simp
  have hlr : (S.rs.map Rs.re).length = S.rs.length := by simp
  have hlc : (S.rs.map Rs.cl).length = S.rs.length := by simp
  have hE : Out 0 0 w w := Out.refl _ _ w
  refine enter Try.func42 rfl Try.ntmps42 rfl ?_
  refine wp_seq ?_
  refine rg ?_
  refine st (asI rfl) ?_
  refine rg_end ?_
  refine n_then ?_
  refine wp_seq ?_
  refine cut (γ := Unit) [5, 6, 7, 8, 9, 10, 11, 12, 13, 14, 15] (fun _ => [(15, .bool (!isR S r))]) (fun _ w_ => Ext w w_ ∧ True) ?_ ?_
  ·
    have hcut := Out.refl 0 0 w
    refine rg ?_
    refine st (mvI rfl) ?_
    refine st (y_lss rfl rfl) ?_
    refine st (mvB rfl) ?_
    refine gspL 7 rfl (fun hg1 => ?_) (fun hg1 => ?_)
    ·
      have hg1n := hg1; try simp only [decide_eq_true_eq, decide_eq_false_iff_not, Bool.not_eq_true', Bool.not_eq_false', Bool.and_eq_true, Bool.or_eq_true, Bool.or_eq_false_iff, Bool.cond_true_right, Bool.cond_false_right, Bool.cond_true_left, Bool.cond_false_left, ne_eq, Decidable.not_not, bne_iff_ne, beq_iff_eq, beq_eq_false_iff_ne, Bool.not_true, Bool.not_false] at hg1n
      refine sts rfl rfl hg1 ?_
      refine sts rfl rfl hg1 ?_
      refine sts rfl rfl hg1 ?_
      refine sts rfl rfl hg1 ?_
      refine sts rfl rfl hg1 ?_
      refine sts rfl rfl hg1 ?_
      refine sts rfl rfl hg1 ?_
      refine st (y_pickT rfl hg1 (v := .bool _) rfl) ?_
      refine rg_end ?_
      exact n_then ⟨(), _, rfl, same_lk rfl (same_rfl), ⟨vb (by simp only [isR, decide_eq_true_eq, decide_eq_false_iff_not, Bool.not_eq_true', Bool.not_eq_eq_eq_not, Bool.not_true, Bool.false_eq_true, false_iff, true_iff, iff_true, iff_false]; omega), trivial⟩, ⟨hcut, trivial⟩⟩
    ·
      have hg1n := hg1; try simp only [decide_eq_true_eq, decide_eq_false_iff_not, Bool.not_eq_true', Bool.not_eq_false', Bool.and_eq_true, Bool.or_eq_true, Bool.or_eq_false_iff, Bool.cond_true_right, Bool.cond_false_right, Bool.cond_true_left, Bool.cond_false_left, ne_eq, Decidable.not_not, bne_iff_ne, beq_iff_eq, beq_eq_false_iff_ne, Bool.not_true, Bool.not_false] at hg1n
      refine stg rfl rfl hg1 (mvI rfl) ?_
      refine stg rfl rfl hg1 (mvP rfl) ?_
      refine stg rfl rfl hg1 (y_nil rfl) ?_
      refine stg rfl rfl hg1 (y_fld fld67_0 rfl) ?_
      refine stg rfl rfl hg1 (y_lb hb na23 rfl rfl) ?_
      refine stg rfl rfl hg1 (y_len Try.underlying23 rfl) ?_
      refine stg rfl rfl hg1 (y_geq rfl rfl) ?_
      refine st (y_pickF rfl hg1 (v := .bool _) rfl) ?_
      refine rg_end ?_
      exact n_then ⟨(), _, rfl, same_lk rfl (same_rfl), ⟨vb (by simp only [isR, decide_eq_true_eq, decide_eq_false_iff_not, Bool.not_eq_true', Bool.not_eq_eq_eq_not, Bool.not_true, Bool.false_eq_true, false_iff, true_iff, iff_true, iff_false]; omega), trivial⟩, ⟨hcut, trivial⟩⟩
  ·
    rintro _ hav_ w2 ⟨ho3, _⟩
    have hz4 := ho3.size
    replace hX := hX.ext ho3
    replace hb := hb.ext ho3
    replace hh := hh.ext ho3
    replace hp := hp.ext ho3
    replace hr := hr.ext ho3
    replace hc_ := hc_.ext ho3
    replace hf := hf.ext ho3
    replace hE := hE.step ho3 (.inl (Nat.le_refl _))
    refine cnd rfl (fun hc0 => ?_) (fun hc0 => ?_)
    ·
      try simp only [decide_eq_true_eq, decide_eq_false_iff_not, Bool.not_eq_true', Bool.not_eq_false', Bool.and_eq_true, Bool.or_eq_true, Bool.or_eq_false_iff, Bool.cond_true_right, Bool.cond_false_right, Bool.cond_true_left, Bool.cond_false_left, ne_eq, Decidable.not_not, bne_iff_ne, beq_iff_eq, beq_eq_false_iff_ne, Bool.not_true, Bool.not_false] at hc0
      refine wp_seq ?_
      refine rg ?_
      refine st (asI rfl) ?_
      refine rg_end ?_
      refine n_then ?_
      refine wp_ret ?_
      refine r_then (ret1 (v := (.int .i64 _)) Try.results42 rfl ?_)
      exact ⟨vi (flk_out hS hc0).symm, hE⟩
    ·
      try simp only [decide_eq_true_eq, decide_eq_false_iff_not, Bool.not_eq_true', Bool.not_eq_false', Bool.and_eq_true, Bool.or_eq_true, Bool.or_eq_false_iff, Bool.cond_true_right, Bool.cond_false_right, Bool.cond_true_left, Bool.cond_false_left, ne_eq, Decidable.not_not, bne_iff_ne, beq_iff_eq, beq_eq_false_iff_ne, Bool.not_true, Bool.not_false] at hc0
      refine wp_skip ?_
      refine n_then ?_
      refine wp_seq ?_
      refine rg ?_
      refine st (mvP rfl) ?_
      refine st (mvI rfl) ?_
      refine sc cl46 (rlk_Flanks_ok S _ _ _ _ _ hX hS) rfl ?_
      rintro v9 w5 ⟨rfl, ho6⟩
      have hz10 := ho6.size
      replace hX := hX.ext ho6
      replace hb := hb.ext ho6
      replace hh := hh.ext ho6
      replace hp := hp.ext ho6
      replace hr := hr.ext ho6
      replace hc_ := hc_.ext ho6
      replace hf := hf.ext ho6
      replace hE := hE.step ho6 (.inl (Nat.le_refl _))
      refine st (asI rfl) ?_
      refine rg_end ?_
      refine n_then ?_
      refine wp_ret ?_
      refine ret1 (v := (.int .i64 _)) Try.results42 rfl ?_
      exact ⟨rfl, hE⟩

set_option maxHeartbeats 1000000 in
set_option maxRecDepth 100000 in
theorem law32_agrees_ok (S : IS) (lx hx bx ly hy yb : Nat) (w : World) (hX : Ilk lx hx bx w S) (hY : Rlk ly hy yb w S) (hI : IsOk S)  : Cal Try.prog 28 [.pointer (some ⟨bx, 0, none⟩), .pointer (some ⟨yb, 0, none⟩)] w (fun v w' => v = .bool true ∧ Ext w w') := by
  have hn1 := hI.n1
  have hn2 := hI.n2
  have hE : Out 0 0 w w := Out.refl _ _ w
  refine enter Try.func28 rfl Try.ntmps28 rfl ?_
  refine wp_seq ?_
  refine rg ?_
  refine st (asB rfl) ?_
  refine rg_end ?_
  refine n_then ?_
  refine wp_seq ?_
  refine wp_seq ?_
  refine rg ?_
  refine st (asI rfl) ?_
  refine rg_end ?_
  refine n_then ?_
  refine wp_block ?_
  refine lp (γ := Int) [4, 5, 7, 8, 9, 10, 11, 12, 13, 14, 15, 16, 17, 18, 19, 20, 21, 22, 23, 24, 25, 26, 27, 28, 29, 30, 31, 32, 33, 34, 35] (fun r => [(5, .int .i64 r)]) (fun r w_ => Ext w w_ ∧ -1 ≤ r ∧ r ≤ 7) (fun r => (7 - r).toNat) (-1) ⟨rfl, trivial⟩ ⟨Out.refl _ _ _, by decide, by decide⟩ ?_
  rintro r hav_ w1 ⟨ho2, hr0, hr1⟩
  have hlp0 := ho2
  have hz3 := ho2.size
  replace hX := hX.ext ho2
  replace hY := hY.ext ho2
  replace hE := hE.step ho2 (.inl (Nat.le_refl _))
  refine wp_seq ?_
  refine wp_seq ?_
  refine rg ?_
  refine st (mvI rfl) ?_
  refine st (y_lss rfl rfl) ?_
  refine rg_end ?_
  refine n_then ?_
  refine cnd rfl (fun hc0 => ?_) (fun hc0 => ?_)
  ·
    try simp only [decide_eq_true_eq, decide_eq_false_iff_not, Bool.not_eq_true', Bool.not_eq_false', Bool.and_eq_true, Bool.or_eq_true, Bool.or_eq_false_iff, Bool.cond_true_right, Bool.cond_false_right, Bool.cond_true_left, Bool.cond_false_left, ne_eq, Decidable.not_not, bne_iff_ne, beq_iff_eq, beq_eq_false_iff_ne, Bool.not_true, Bool.not_false] at hc0
    refine wp_skip ?_
    refine n_then ?_
    refine wp_seq ?_
    refine wp_block ?_
    refine wp_seq ?_
    refine rg ?_
    refine st (mvP rfl) ?_
    refine st (mvI rfl) ?_
    refine sc cl18 (ilk_Holder_ok S _ _ _ _ _ hX hI) rfl ?_
    rintro v8 w4 ⟨rfl, ho5⟩
    have hz9 := ho5.size
    replace hX := hX.ext ho5
    replace hY := hY.ext ho5
    replace hE := hE.step ho5 (.inl (Nat.le_refl _))
    replace hlp0 := hlp0.step ho5 (.inl (Nat.le_refl _))
    refine st (mvP rfl) ?_
    refine st (mvI rfl) ?_
    refine sc cl40 (rlk_Holder_ok S _ _ _ _ _ hY hI) rfl ?_
    rintro v14 w10 ⟨rfl, ho11⟩
    have hz15 := ho11.size
    replace hX := hX.ext ho11
    replace hY := hY.ext ho11
    replace hE := hE.step ho11 (.inl (Nat.le_refl _))
    replace hlp0 := hlp0.step ho11 (.inl (Nat.le_refl _))
    refine st (y_neq rfl rfl) ?_
    refine st (mvB rfl) ?_
    refine stg rfl rfl (decide_eq_false (not_not_intro rfl)) (mvP rfl) ?_
    refine stg rfl rfl (decide_eq_false (not_not_intro rfl)) (mvI rfl) ?_
    refine scg rfl rfl (decide_eq_false (not_not_intro rfl)) cl17 (ilk_Position_ok S _ _ _ _ _ hX hI) rfl ?_
    rintro v20 w16 ⟨rfl, ho17⟩
    have hz21 := ho17.size
    replace hX := hX.ext ho17
    replace hY := hY.ext ho17
    replace hE := hE.step ho17 (.inl (Nat.le_refl _))
    replace hlp0 := hlp0.step ho17 (.inl (Nat.le_refl _))
    refine stg rfl rfl (decide_eq_false (not_not_intro rfl)) (mvP rfl) ?_
    refine stg rfl rfl (decide_eq_false (not_not_intro rfl)) (mvI rfl) ?_
    refine scg rfl rfl (decide_eq_false (not_not_intro rfl)) cl41 (rlk_Position_ok S _ _ _ _ _ hY hI) rfl ?_
    rintro v26 w22 ⟨rfl, ho23⟩
    have hz27 := ho23.size
    replace hX := hX.ext ho23
    replace hY := hY.ext ho23
    replace hE := hE.step ho23 (.inl (Nat.le_refl _))
    replace hlp0 := hlp0.step ho23 (.inl (Nat.le_refl _))
    refine stg rfl rfl (decide_eq_false (not_not_intro rfl)) (y_neq rfl rfl) ?_
    refine st (y_pickF rfl (decide_eq_false (not_not_intro rfl)) (v := .bool _) rfl) ?_
    refine st (mvB rfl) ?_
    refine stg rfl rfl (decide_eq_false (not_not_intro rfl)) (mvP rfl) ?_
    refine stg rfl rfl (decide_eq_false (not_not_intro rfl)) (mvI rfl) ?_
    refine scg rfl rfl (decide_eq_false (not_not_intro rfl)) cl19 (ilk_Flanks_ok S _ _ _ _ _ hX hI) rfl ?_
    rintro v32 w28 ⟨rfl, ho29⟩
    have hz33 := ho29.size
    replace hX := hX.ext ho29
    replace hY := hY.ext ho29
    replace hE := hE.step ho29 (.inl (Nat.le_refl _))
    replace hlp0 := hlp0.step ho29 (.inl (Nat.le_refl _))
    refine stg rfl rfl (decide_eq_false (not_not_intro rfl)) (mvP rfl) ?_
    refine stg rfl rfl (decide_eq_false (not_not_intro rfl)) (mvI rfl) ?_
    refine scg rfl rfl (decide_eq_false (not_not_intro rfl)) cl42 (law32_flankCount_ok S _ _ _ _ _ hY hI) rfl ?_
    rintro v38 w34 ⟨rfl, ho35⟩
    have hz39 := ho35.size
    replace hX := hX.ext ho35
    replace hY := hY.ext ho35
    replace hE := hE.step ho35 (.inl (Nat.le_refl _))
    replace hlp0 := hlp0.step ho35 (.inl (Nat.le_refl _))
    refine stg rfl rfl (decide_eq_false (not_not_intro rfl)) (y_neq rfl rfl) ?_
    refine st (y_pickF rfl (decide_eq_false (not_not_intro rfl)) (v := .bool _) rfl) ?_
    refine rg_end ?_
    refine n_then ?_
    refine cnd rfl (fun hc1 => absurd ((decide_eq_false (not_not_intro rfl)).symm.trans hc1) (by decide)) (fun hc1 => ?_)
    refine wp_skip ?_
    refine n_blk ?_
    refine n_then ?_
    refine rg ?_
    refine st (mvI rfl) ?_
    refine st (y_add rfl rfl (by omega)) ?_
    refine st (asI rfl) ?_
    refine rg_end ?_
    exact n_then ⟨r + 1, _, rfl, same_lk rfl (same_h0), ⟨rfl, trivial⟩, ⟨hlp0, by omega, by omega⟩, by first | omega | (dsimp only; omega)⟩
  ·
    try simp only [decide_eq_true_eq, decide_eq_false_iff_not, Bool.not_eq_true', Bool.not_eq_false', Bool.and_eq_true, Bool.or_eq_true, Bool.or_eq_false_iff, Bool.cond_true_right, Bool.cond_false_right, Bool.cond_true_left, Bool.cond_false_left, ne_eq, Decidable.not_not, bne_iff_ne, beq_iff_eq, beq_eq_false_iff_ne, Bool.not_true, Bool.not_false] at hc0
    refine wp_exit ?_
    refine e_then (e_then (e_blk (?_)))
    refine n_then ?_
    refine wp_seq ?_
    refine wp_seq ?_
    refine rg ?_
    refine st (asI rfl) ?_
    refine rg_end ?_
    refine n_then ?_
    refine wp_block ?_
    refine lp (γ := Int) [4, 6, 36, 37, 38, 39, 40, 41, 42, 43, 44, 45, 46, 47] (fun t => [(6, .int .i64 t)]) (fun t w_ => Ext w1 w_ ∧ -1 ≤ t ∧ t ≤ 4) (fun t => (4 - t).toNat) (-1) ⟨rfl, trivial⟩ ⟨Out.refl _ _ _, by decide, by decide⟩ ?_
    rintro t hav_ w40 ⟨ho41, ht0, ht1⟩
    have hlp1 := ho41
    have hz42 := ho41.size
    replace hX := hX.ext ho41
    replace hY := hY.ext ho41
    replace hE := hE.step ho41 (.inl (Nat.le_refl _))
    refine wp_seq ?_
    refine wp_seq ?_
    refine rg ?_
    refine st (mvI rfl) ?_
    refine st (y_lss rfl rfl) ?_
    refine rg_end ?_
    refine n_then ?_
    refine cnd rfl (fun hc2 => ?_) (fun hc2 => ?_)
    ·
      try simp only [decide_eq_true_eq, decide_eq_false_iff_not, Bool.not_eq_true', Bool.not_eq_false', Bool.and_eq_true, Bool.or_eq_true, Bool.or_eq_false_iff, Bool.cond_true_right, Bool.cond_false_right, Bool.cond_true_left, Bool.cond_false_left, ne_eq, Decidable.not_not, bne_iff_ne, beq_iff_eq, beq_eq_false_iff_ne, Bool.not_true, Bool.not_false] at hc2
      refine wp_skip ?_
      refine n_then ?_
      refine wp_seq ?_
      refine wp_block ?_
      refine wp_seq ?_
      refine rg ?_
      refine st (mvP rfl) ?_
      refine st (mvI rfl) ?_
      refine sc cl27 (ilk_Held_ok S _ _ _ _ _ hX hI) rfl ?_
      rintro v47 w43 ⟨a1, c1, rfl, hH1, ho44⟩
      have hz48 := ho44.size
      replace hX := hX.ext ho44
      replace hY := hY.ext ho44
      replace hE := hE.step ho44 (.inl (Nat.le_refl _))
      replace hlp1 := hlp1.step ho44 (.inl (Nat.le_refl _))
      refine st (mvP rfl) ?_
      refine st (mvI rfl) ?_
      refine sc cl43 (rlk_Held_ok S _ _ _ _ _ hY hI) rfl ?_
      rintro v53 w49 ⟨a2, c2, rfl, hH2, ho50⟩
      have hhl := held_len (S := S) (t := t) (k := S.rs.length)
      have hz54 := ho50.size
      replace hX := hX.ext ho50
      replace hY := hY.ext ho50
      replace hE := hE.step ho50 (.inl (Nat.le_refl _))
      replace hlp1 := hlp1.step ho50 (.inl (Nat.le_refl _))
      replace hH1 := hH1.ext ho50
      refine sc cl26 (keep_Same_int_ok _ _ _ _ _ _ _ _ _ _ _ hH1 hH2 (by omega)) rfl ?_
      rintro v59 w55 ⟨rfl, ho56⟩
      have hz60 := ho56.size
      replace hX := hX.ext ho56
      replace hY := hY.ext ho56
      replace hE := hE.step ho56 (.inl (Nat.le_refl _))
      replace hlp1 := hlp1.step ho56 (.inl (Nat.le_refl _))
      replace hH1 := hH1.ext ho56
      replace hH2 := hH2.ext ho56
      refine st (y_not rfl) ?_
      refine rg_end ?_
      refine n_then ?_
      refine cnd rfl (fun hc3 => absurd ((show (!decide (heldBy S t S.rs.length = heldBy S t S.rs.length)) = false by simp).symm.trans hc3) (by decide)) (fun hc3 => ?_)
      refine wp_skip ?_
      refine n_blk ?_
      refine n_then ?_
      refine rg ?_
      refine st (mvI rfl) ?_
      refine st (y_add rfl rfl (by omega)) ?_
      refine st (asI rfl) ?_
      refine rg_end ?_
      exact n_then ⟨t + 1, _, rfl, same_lk rfl (same_h0), ⟨rfl, trivial⟩, ⟨hlp1, by omega, by omega⟩, by first | omega | (dsimp only; omega)⟩
    ·
      try simp only [decide_eq_true_eq, decide_eq_false_iff_not, Bool.not_eq_true', Bool.not_eq_false', Bool.and_eq_true, Bool.or_eq_true, Bool.or_eq_false_iff, Bool.cond_true_right, Bool.cond_false_right, Bool.cond_true_left, Bool.cond_false_left, ne_eq, Decidable.not_not, bne_iff_ne, beq_iff_eq, beq_eq_false_iff_ne, Bool.not_true, Bool.not_false] at hc2
      refine wp_exit ?_
      refine e_then (e_then (e_blk (?_)))
      refine n_then ?_
      refine wp_seq ?_
      refine rg ?_
      refine st (asB rfl) ?_
      refine rg_end ?_
      refine n_then ?_
      refine wp_ret ?_
      refine ret1 (v := (.bool _)) Try.results28 rfl ?_
      exact ⟨rfl, hE⟩

set_option maxHeartbeats 1000000 in
set_option maxRecDepth 100000 in
theorem law32_act_ok (S : IS) (lx hx bx ly hy yb ls hs bs z : Nat) (w : World) (hX : Ilk lx hx bx w S) (hY : Rlk ly hy yb w S) (hI : IsOk S) (hS : Src ls hs bs w) (o1 : hs ≤ z) (o2 : z ≤ bs) (o3 : bs < lx) (o4 : hx ≤ ly) (o5 : z ≤ lx) : Cal Try.prog 20 [.pointer (some ⟨bx, 0, none⟩), .pointer (some ⟨yb, 0, none⟩), .pointer (some ⟨bs, 0, none⟩)] w (fun v w' => v = .bool true ∧ ∃ S', IStep S S' ∧ Ilk lx hx bx w' S' ∧ Rlk ly hy yb w' S' ∧ Src ls hs bs w' ∧ Kept (bs + 1) lx w w' ∧ Out z hy w w') := by
  have hxr := hX.rng
  have hyr := hY.rng
  have hK : Kept (bs + 1) lx w w := ⟨by omega, fun _ _ _ => rfl⟩
  have hE : Out z hy w w := Out.refl _ _ w
  refine enter Try.func20 rfl Try.ntmps20 rfl ?_
  refine wp_seq ?_
  refine rg ?_
  refine st (asB rfl) ?_
  refine rg_end ?_
  refine n_then ?_
  refine wp_seq ?_
  refine rg ?_
  refine st (mvP rfl) ?_
  refine sc cl13 (keep_Next_ok _ _ _ _ _ hS (by omega) (by omega) (by omega)) rfl ?_
  rintro v5 w1 ⟨n1, rfl, n1_0, n1_1, hS, ho2⟩
  have hz6 := ho2.size
  replace hX := hX.out ho2 (by first | omega | (simp only [blk_some, hi1_some] at *; omega))
  replace hY := hY.out ho2 (by first | omega | (simp only [blk_some, hi1_some] at *; omega))
  replace hK := hK.out ho2 (by first | omega | (simp only [blk_some, hi1_some] at *; omega))
  replace hE := hE.step ho2 (by first | omega | (simp only [blk_some, hi1_some] at *; omega))
  refine st (asI rfl) ?_
  refine rg_end ?_
  refine n_then ?_
  refine wp_seq ?_
  refine wp_seq ?_
  refine rg ?_
  refine st (mvP rfl) ?_
  refine sc cl13 (keep_Next_ok _ _ _ _ _ hS (by omega) (by omega) (by omega)) rfl ?_
  rintro v11 w7 ⟨n2, rfl, n2_0, n2_1, hS, ho8⟩
  have hz12 := ho8.size
  replace hX := hX.out ho8 (by first | omega | (simp only [blk_some, hi1_some] at *; omega))
  replace hY := hY.out ho8 (by first | omega | (simp only [blk_some, hi1_some] at *; omega))
  replace hK := hK.out ho8 (by first | omega | (simp only [blk_some, hi1_some] at *; omega))
  replace hE := hE.step ho8 (by first | omega | (simp only [blk_some, hi1_some] at *; omega))
  refine rg_end ?_
  refine n_then ?_
  refine wp_block ?_
  refine wp_seq ?_
  refine rg ?_
  refine st (y_eql rfl rfl) ?_
  refine st (asB rfl) ?_
  refine rg_end ?_
  refine n_then ?_
  refine cnd rfl (fun hc0 => ?_) (fun hc0 => ?_)
  ·
    try simp only [decide_eq_true_eq, decide_eq_false_iff_not, Bool.not_eq_true', Bool.not_eq_false', Bool.and_eq_true, Bool.or_eq_true, Bool.or_eq_false_iff, Bool.cond_true_right, Bool.cond_false_right, Bool.cond_true_left, Bool.cond_false_left, ne_eq, Decidable.not_not, bne_iff_ne, beq_iff_eq, beq_eq_false_iff_ne, Bool.not_true, Bool.not_false] at hc0
    refine wp_seq ?_
    refine rg ?_
    refine st (mvP rfl) ?_
    refine sc cl13 (keep_Next_ok _ _ _ _ _ hS (by omega) (by omega) (by omega)) rfl ?_
    rintro v17 w13 ⟨n3, rfl, n3_0, n3_1, hS, ho14⟩
    have hz18 := ho14.size
    replace hX := hX.out ho14 (by first | omega | (simp only [blk_some, hi1_some] at *; omega))
    replace hY := hY.out ho14 (by first | omega | (simp only [blk_some, hi1_some] at *; omega))
    replace hK := hK.out ho14 (by first | omega | (simp only [blk_some, hi1_some] at *; omega))
    replace hE := hE.step ho14 (by first | omega | (simp only [blk_some, hi1_some] at *; omega))
    refine st (y_sub rfl rfl (by omega)) ?_
    refine st (mvP rfl) ?_
    refine sc cl13 (keep_Next_ok _ _ _ _ _ hS (by omega) (by omega) (by omega)) rfl ?_
    rintro v23 w19 ⟨n4, rfl, n4_0, n4_1, hS, ho20⟩
    have hz24 := ho20.size
    replace hX := hX.out ho20 (by first | omega | (simp only [blk_some, hi1_some] at *; omega))
    replace hY := hY.out ho20 (by first | omega | (simp only [blk_some, hi1_some] at *; omega))
    replace hK := hK.out ho20 (by first | omega | (simp only [blk_some, hi1_some] at *; omega))
    replace hE := hE.step ho20 (by first | omega | (simp only [blk_some, hi1_some] at *; omega))
    refine st (y_sub rfl rfl (by omega)) ?_
    refine st (asI rfl) ?_
    refine st (asI rfl) ?_
    refine rg_end ?_
    refine n_then ?_
    refine wp_seq ?_
    refine rg ?_
    refine st (mvP rfl) ?_
    refine st (mvI rfl) ?_
    refine st (mvI rfl) ?_
    refine sc cl24 (ilk_Report_ok S _ _ _ _ _ _ hX hI) rfl ?_
    rintro v29 w25 ⟨rfl, hX, ho26⟩
    have hz30 := ho26.size
    replace hY := hY.out ho26 (by first | omega | (simp only [blk_some, hi1_some] at *; omega))
    replace hS := hS.out ho26 (by first | omega | (simp only [blk_some, hi1_some] at *; omega))
    replace hK := hK.out ho26 (by first | omega | (simp only [blk_some, hi1_some] at *; omega))
    replace hE := hE.step ho26 (by first | omega | (simp only [blk_some, hi1_some] at *; omega))
    refine st (mvP rfl) ?_
    refine st (mvI rfl) ?_
    refine st (mvI rfl) ?_
    refine sc cl31 (rlk_Report_ok S _ _ _ _ _ _ hY hI) rfl ?_
    rintro v35 w31 ⟨rfl, hY, ho32⟩
    have hz36 := ho32.size
    replace hX := hX.out ho32 (by first | omega | (simp only [blk_some, hi1_some] at *; omega))
    replace hS := hS.out ho32 (by first | omega | (simp only [blk_some, hi1_some] at *; omega))
    replace hK := hK.out ho32 (by first | omega | (simp only [blk_some, hi1_some] at *; omega))
    replace hE := hE.step ho32 (by first | omega | (simp only [blk_some, hi1_some] at *; omega))
    refine st (y_eqlB rfl rfl Try.underlying4) ?_
    refine st (asB rfl) ?_
    refine rg_end ?_
    refine n_then ?_
    refine wp_ret ?_
    refine r_blk (r_then (ret1 (v := (.bool _)) Try.results20 rfl ?_))
    exact ⟨vb (by simp), _, IStep.rep _ _, hX, hY, hS, hK, hE⟩
  ·
    try simp only [decide_eq_true_eq, decide_eq_false_iff_not, Bool.not_eq_true', Bool.not_eq_false', Bool.and_eq_true, Bool.or_eq_true, Bool.or_eq_false_iff, Bool.cond_true_right, Bool.cond_false_right, Bool.cond_true_left, Bool.cond_false_left, ne_eq, Decidable.not_not, bne_iff_ne, beq_iff_eq, beq_eq_false_iff_ne, Bool.not_true, Bool.not_false] at hc0
    refine wp_seq ?_
    refine rg ?_
    refine st (y_eql rfl rfl) ?_
    refine st (asB rfl) ?_
    refine rg_end ?_
    refine n_then ?_
    refine cnd rfl (fun hc1 => ?_) (fun hc1 => ?_)
    ·
      try simp only [decide_eq_true_eq, decide_eq_false_iff_not, Bool.not_eq_true', Bool.not_eq_false', Bool.and_eq_true, Bool.or_eq_true, Bool.or_eq_false_iff, Bool.cond_true_right, Bool.cond_false_right, Bool.cond_true_left, Bool.cond_false_left, ne_eq, Decidable.not_not, bne_iff_ne, beq_iff_eq, beq_eq_false_iff_ne, Bool.not_true, Bool.not_false] at hc1
      refine wp_seq ?_
      refine rg ?_
      refine st (mvP rfl) ?_
      refine sc cl13 (keep_Next_ok _ _ _ _ _ hS (by omega) (by omega) (by omega)) rfl ?_
      rintro v41 w37 ⟨n5, rfl, n5_0, n5_1, hS, ho38⟩
      have hz42 := ho38.size
      replace hX := hX.out ho38 (by first | omega | (simp only [blk_some, hi1_some] at *; omega))
      replace hY := hY.out ho38 (by first | omega | (simp only [blk_some, hi1_some] at *; omega))
      replace hK := hK.out ho38 (by first | omega | (simp only [blk_some, hi1_some] at *; omega))
      replace hE := hE.step ho38 (by first | omega | (simp only [blk_some, hi1_some] at *; omega))
      refine st (y_sub rfl rfl (by omega)) ?_
      refine st (mvP rfl) ?_
      refine sc cl13 (keep_Next_ok _ _ _ _ _ hS (by omega) (by omega) (by omega)) rfl ?_
      rintro v47 w43 ⟨n6, rfl, n6_0, n6_1, hS, ho44⟩
      have hz48 := ho44.size
      replace hX := hX.out ho44 (by first | omega | (simp only [blk_some, hi1_some] at *; omega))
      replace hY := hY.out ho44 (by first | omega | (simp only [blk_some, hi1_some] at *; omega))
      replace hK := hK.out ho44 (by first | omega | (simp only [blk_some, hi1_some] at *; omega))
      replace hE := hE.step ho44 (by first | omega | (simp only [blk_some, hi1_some] at *; omega))
      refine st (y_eql rfl rfl) ?_
      refine st (asI rfl) ?_
      refine st (asB rfl) ?_
      refine rg_end ?_
      refine n_then ?_
      refine wp_seq ?_
      refine rg ?_
      refine st (mvP rfl) ?_
      refine st (mvI rfl) ?_
      refine st (mvB rfl) ?_
      refine sc cl23 (ilk_Close_ok S _ _ _ _ _ _ hX hI) rfl ?_
      rintro v53 w49 ⟨rfl, hX, ho50⟩
      have hz54 := ho50.size
      replace hY := hY.out ho50 (by first | omega | (simp only [blk_some, hi1_some] at *; omega))
      replace hS := hS.out ho50 (by first | omega | (simp only [blk_some, hi1_some] at *; omega))
      replace hK := hK.out ho50 (by first | omega | (simp only [blk_some, hi1_some] at *; omega))
      replace hE := hE.step ho50 (by first | omega | (simp only [blk_some, hi1_some] at *; omega))
      refine st (mvP rfl) ?_
      refine st (mvI rfl) ?_
      refine st (mvB rfl) ?_
      refine sc cl32 (rlk_Close_ok S _ _ _ _ _ _ hY hI) rfl ?_
      rintro v59 w55 ⟨rfl, hY, ho56⟩
      have hz60 := ho56.size
      replace hX := hX.out ho56 (by first | omega | (simp only [blk_some, hi1_some] at *; omega))
      replace hS := hS.out ho56 (by first | omega | (simp only [blk_some, hi1_some] at *; omega))
      replace hK := hK.out ho56 (by first | omega | (simp only [blk_some, hi1_some] at *; omega))
      replace hE := hE.step ho56 (by first | omega | (simp only [blk_some, hi1_some] at *; omega))
      refine st (y_eqlB rfl rfl Try.underlying4) ?_
      refine st (asB rfl) ?_
      refine rg_end ?_
      refine n_then ?_
      refine wp_ret ?_
      refine r_blk (r_then (ret1 (v := (.bool _)) Try.results20 rfl ?_))
      exact ⟨vb (by simp), _, IStep.clo _ _, hX, hY, hS, hK, hE⟩
    ·
      try simp only [decide_eq_true_eq, decide_eq_false_iff_not, Bool.not_eq_true', Bool.not_eq_false', Bool.and_eq_true, Bool.or_eq_true, Bool.or_eq_false_iff, Bool.cond_true_right, Bool.cond_false_right, Bool.cond_true_left, Bool.cond_false_left, ne_eq, Decidable.not_not, bne_iff_ne, beq_iff_eq, beq_eq_false_iff_ne, Bool.not_true, Bool.not_false] at hc1
      refine wp_seq ?_
      refine wp_seq ?_
      refine rg ?_
      refine st (y_eql rfl rfl) ?_
      refine st (asB rfl) ?_
      refine rg_end ?_
      refine n_then ?_
      refine cnd rfl (fun hc2 => ?_) (fun hc2 => ?_)
      ·
        try simp only [decide_eq_true_eq, decide_eq_false_iff_not, Bool.not_eq_true', Bool.not_eq_false', Bool.and_eq_true, Bool.or_eq_true, Bool.or_eq_false_iff, Bool.cond_true_right, Bool.cond_false_right, Bool.cond_true_left, Bool.cond_false_left, ne_eq, Decidable.not_not, bne_iff_ne, beq_iff_eq, beq_eq_false_iff_ne, Bool.not_true, Bool.not_false] at hc2
        refine wp_skip ?_
        refine n_then ?_
        refine cnd rfl (fun hc3 => ?_) (fun hc3 => ?_)
        ·
          try simp only [decide_eq_true_eq, decide_eq_false_iff_not, Bool.not_eq_true', Bool.not_eq_false', Bool.and_eq_true, Bool.or_eq_true, Bool.or_eq_false_iff, Bool.cond_true_right, Bool.cond_false_right, Bool.cond_true_left, Bool.cond_false_left, ne_eq, Decidable.not_not, bne_iff_ne, beq_iff_eq, beq_eq_false_iff_ne, Bool.not_true, Bool.not_false] at hc3
          refine wp_seq ?_
          refine wp_seq ?_
          refine rg ?_
          refine st (mvP rfl) ?_
          refine sc cl13 (keep_Next_ok _ _ _ _ _ hS (by omega) (by omega) (by omega)) rfl ?_
          rintro v65 w61 ⟨n7, rfl, n7_0, n7_1, hS, ho62⟩
          have hz66 := ho62.size
          replace hX := hX.out ho62 (by first | omega | (simp only [blk_some, hi1_some] at *; omega))
          replace hY := hY.out ho62 (by first | omega | (simp only [blk_some, hi1_some] at *; omega))
          replace hK := hK.out ho62 (by first | omega | (simp only [blk_some, hi1_some] at *; omega))
          replace hE := hE.step ho62 (by first | omega | (simp only [blk_some, hi1_some] at *; omega))
          refine st (y_eql rfl rfl) ?_
          refine rg_end ?_
          refine n_then ?_
          refine cnd rfl (fun hc4 => ?_) (fun hc4 => ?_)
          ·
            try simp only [decide_eq_true_eq, decide_eq_false_iff_not, Bool.not_eq_true', Bool.not_eq_false', Bool.and_eq_true, Bool.or_eq_true, Bool.or_eq_false_iff, Bool.cond_true_right, Bool.cond_false_right, Bool.cond_true_left, Bool.cond_false_left, ne_eq, Decidable.not_not, bne_iff_ne, beq_iff_eq, beq_eq_false_iff_ne, Bool.not_true, Bool.not_false] at hc4
            refine rg ?_
            refine st (asI rfl) ?_
            refine rg_end ?_
            refine n_then ?_
            refine wp_seq ?_
            refine rg ?_
            refine st (mvP rfl) ?_
            refine sc cl13 (keep_Next_ok _ _ _ _ _ hS (by omega) (by omega) (by omega)) rfl ?_
            rintro v71 w67 ⟨n8, rfl, n8_0, n8_1, hS, ho68⟩
            have hz72 := ho68.size
            replace hX := hX.out ho68 (by first | omega | (simp only [blk_some, hi1_some] at *; omega))
            replace hY := hY.out ho68 (by first | omega | (simp only [blk_some, hi1_some] at *; omega))
            replace hK := hK.out ho68 (by first | omega | (simp only [blk_some, hi1_some] at *; omega))
            replace hE := hE.step ho68 (by first | omega | (simp only [blk_some, hi1_some] at *; omega))
            refine st (y_sub rfl rfl (by omega)) ?_
            refine st (asI rfl) ?_
            refine rg_end ?_
            refine n_then ?_
            refine wp_seq ?_
            refine rg ?_
            refine st (mvP rfl) ?_
            refine st (mvI rfl) ?_
            refine st (mvI rfl) ?_
            refine sc cl25 (ilk_Free_ok S _ _ _ _ _ _ hX hI) rfl ?_
            rintro v77 w73 ⟨rfl, hX, ho74⟩
            have hz78 := ho74.size
            replace hY := hY.out ho74 (by first | omega | (simp only [blk_some, hi1_some] at *; omega))
            replace hS := hS.out ho74 (by first | omega | (simp only [blk_some, hi1_some] at *; omega))
            replace hK := hK.out ho74 (by first | omega | (simp only [blk_some, hi1_some] at *; omega))
            replace hE := hE.step ho74 (by first | omega | (simp only [blk_some, hi1_some] at *; omega))
            refine st (mvP rfl) ?_
            refine st (mvI rfl) ?_
            refine st (mvI rfl) ?_
            refine sc cl30 (rlk_Free_ok S _ _ _ _ _ _ hY hI) rfl ?_
            rintro v83 w79 ⟨rfl, hY, ho80⟩
            have hz84 := ho80.size
            replace hX := hX.out ho80 (by first | omega | (simp only [blk_some, hi1_some] at *; omega))
            replace hS := hS.out ho80 (by first | omega | (simp only [blk_some, hi1_some] at *; omega))
            replace hK := hK.out ho80 (by first | omega | (simp only [blk_some, hi1_some] at *; omega))
            replace hE := hE.step ho80 (by first | omega | (simp only [blk_some, hi1_some] at *; omega))
            refine st (y_eql rfl rfl) ?_
            refine st (asB rfl) ?_
            refine rg_end ?_
            refine n_then ?_
            refine wp_ret ?_
            refine r_blk (r_then (ret1 (v := (.bool _)) Try.results20 rfl ?_))
            exact ⟨vb (by simp), _, IStep.free _ _, hX, hY, hS, hK, hE⟩
          ·
            try simp only [decide_eq_true_eq, decide_eq_false_iff_not, Bool.not_eq_true', Bool.not_eq_false', Bool.and_eq_true, Bool.or_eq_true, Bool.or_eq_false_iff, Bool.cond_true_right, Bool.cond_false_right, Bool.cond_true_left, Bool.cond_false_left, ne_eq, Decidable.not_not, bne_iff_ne, beq_iff_eq, beq_eq_false_iff_ne, Bool.not_true, Bool.not_false] at hc4
            refine wp_skip ?_
            refine n_then ?_
            refine wp_seq ?_
            refine rg ?_
            refine st (mvP rfl) ?_
            refine sc cl13 (keep_Next_ok _ _ _ _ _ hS (by omega) (by omega) (by omega)) rfl ?_
            rintro v89 w85 ⟨n8, rfl, n8_0, n8_1, hS, ho86⟩
            have hz90 := ho86.size
            replace hX := hX.out ho86 (by first | omega | (simp only [blk_some, hi1_some] at *; omega))
            replace hY := hY.out ho86 (by first | omega | (simp only [blk_some, hi1_some] at *; omega))
            replace hK := hK.out ho86 (by first | omega | (simp only [blk_some, hi1_some] at *; omega))
            replace hE := hE.step ho86 (by first | omega | (simp only [blk_some, hi1_some] at *; omega))
            refine st (y_sub rfl rfl (by omega)) ?_
            refine st (asI rfl) ?_
            refine rg_end ?_
            refine n_then ?_
            refine wp_seq ?_
            refine rg ?_
            refine st (mvP rfl) ?_
            refine st (mvI rfl) ?_
            refine st (mvI rfl) ?_
            refine sc cl25 (ilk_Free_ok S _ _ _ _ _ _ hX hI) rfl ?_
            rintro v95 w91 ⟨rfl, hX, ho92⟩
            have hz96 := ho92.size
            replace hY := hY.out ho92 (by first | omega | (simp only [blk_some, hi1_some] at *; omega))
            replace hS := hS.out ho92 (by first | omega | (simp only [blk_some, hi1_some] at *; omega))
            replace hK := hK.out ho92 (by first | omega | (simp only [blk_some, hi1_some] at *; omega))
            replace hE := hE.step ho92 (by first | omega | (simp only [blk_some, hi1_some] at *; omega))
            refine st (mvP rfl) ?_
            refine st (mvI rfl) ?_
            refine st (mvI rfl) ?_
            refine sc cl30 (rlk_Free_ok S _ _ _ _ _ _ hY hI) rfl ?_
            rintro v101 w97 ⟨rfl, hY, ho98⟩
            have hz102 := ho98.size
            replace hX := hX.out ho98 (by first | omega | (simp only [blk_some, hi1_some] at *; omega))
            replace hS := hS.out ho98 (by first | omega | (simp only [blk_some, hi1_some] at *; omega))
            replace hK := hK.out ho98 (by first | omega | (simp only [blk_some, hi1_some] at *; omega))
            replace hE := hE.step ho98 (by first | omega | (simp only [blk_some, hi1_some] at *; omega))
            refine st (y_eql rfl rfl) ?_
            refine st (asB rfl) ?_
            refine rg_end ?_
            refine n_then ?_
            refine wp_ret ?_
            refine r_blk (r_then (ret1 (v := (.bool _)) Try.results20 rfl ?_))
            exact ⟨vb (by simp), _, IStep.free _ _, hX, hY, hS, hK, hE⟩
        ·
          try simp only [decide_eq_true_eq, decide_eq_false_iff_not, Bool.not_eq_true', Bool.not_eq_false', Bool.and_eq_true, Bool.or_eq_true, Bool.or_eq_false_iff, Bool.cond_true_right, Bool.cond_false_right, Bool.cond_true_left, Bool.cond_false_left, ne_eq, Decidable.not_not, bne_iff_ne, beq_iff_eq, beq_eq_false_iff_ne, Bool.not_true, Bool.not_false] at hc3
          refine wp_skip ?_
          refine n_blk ?_
          refine n_then ?_
          refine wp_seq ?_
          refine rg ?_
          refine st (mvP rfl) ?_
          refine sc cl33 (law32_locks_ok _ _ _ _ hS (by omega) (by omega)) rfl ?_
          rintro v107 w103 ⟨al, cl, l, rfl, hl3, hL, hS, ho104⟩
          have hz108 := ho104.size
          replace hX := hX.out ho104 (by first | omega | (simp only [blk_some, hi1_some] at *; omega))
          replace hY := hY.out ho104 (by first | omega | (simp only [blk_some, hi1_some] at *; omega))
          replace hK := hK.out ho104 (by first | omega | (simp only [blk_some, hi1_some] at *; omega))
          replace hE := hE.step ho104 (by first | omega | (simp only [blk_some, hi1_some] at *; omega))
          refine st (asS rfl) ?_
          refine rg_end ?_
          refine n_then ?_
          refine wp_seq ?_
          refine rg ?_
          refine st (mvP rfl) ?_
          refine st (mvI rfl) ?_
          refine st (mvS rfl) ?_
          refine sc cl22 (ilk_Grant_ok S _ _ _ _ l _ _ _ _ _ hX hI (Ow.sl hL) (by omega) (by omega) (by omega)) rfl ?_
          rintro v113 w109 ⟨rfl, hX, ho110⟩
          have hz114 := ho110.size
          replace hY := hY.out ho110 (by first | omega | (simp only [blk_some, hi1_some] at *; omega))
          replace hS := hS.out ho110 (by first | omega | (simp only [blk_some, hi1_some] at *; omega))
          replace hK := hK.out ho110 (by first | omega | (simp only [blk_some, hi1_some] at *; omega))
          replace hE := hE.step ho110 (by first | omega | (simp only [blk_some, hi1_some] at *; omega))
          have hrnhL := hL.rng
          replace hL := hL.out ho110 (by first | omega | (simp only [blk_some, hi1_some] at *; omega))
          refine st (mvP rfl) ?_
          refine st (mvI rfl) ?_
          refine st (mvS rfl) ?_
          refine sc cl29 (rlk_Grant_ok S _ _ _ _ l _ _ _ _ _ hY hI (Ow.sl hL) (by omega) (by omega) (by omega)) rfl ?_
          rintro v119 w115 ⟨rfl, hY, ho116⟩
          have hz120 := ho116.size
          replace hX := hX.out ho116 (by first | omega | (simp only [blk_some, hi1_some] at *; omega))
          replace hS := hS.out ho116 (by first | omega | (simp only [blk_some, hi1_some] at *; omega))
          replace hK := hK.out ho116 (by first | omega | (simp only [blk_some, hi1_some] at *; omega))
          replace hE := hE.step ho116 (by first | omega | (simp only [blk_some, hi1_some] at *; omega))
          replace hL := hL.out ho116 (by first | omega | (simp only [blk_some, hi1_some] at *; omega))
          refine st (y_eql rfl rfl) ?_
          refine st (asB rfl) ?_
          refine rg_end ?_
          refine n_then ?_
          refine wp_ret ?_
          refine ret1 (v := (.bool _)) Try.results20 rfl ?_
          exact ⟨vb (by simp), _, IStep.grant _ _, hX, hY, hS, hK, hE⟩
      ·
        try simp only [decide_eq_true_eq, decide_eq_false_iff_not, Bool.not_eq_true', Bool.not_eq_false', Bool.and_eq_true, Bool.or_eq_true, Bool.or_eq_false_iff, Bool.cond_true_right, Bool.cond_false_right, Bool.cond_true_left, Bool.cond_false_left, ne_eq, Decidable.not_not, bne_iff_ne, beq_iff_eq, beq_eq_false_iff_ne, Bool.not_true, Bool.not_false] at hc2
        refine rg ?_
        refine st (y_eql rfl rfl) ?_
        refine st (asB rfl) ?_
        refine rg_end ?_
        refine n_then ?_
        refine cnd rfl (fun hc3 => ?_) (fun hc3 => ?_)
        ·
          try simp only [decide_eq_true_eq, decide_eq_false_iff_not, Bool.not_eq_true', Bool.not_eq_false', Bool.and_eq_true, Bool.or_eq_true, Bool.or_eq_false_iff, Bool.cond_true_right, Bool.cond_false_right, Bool.cond_true_left, Bool.cond_false_left, ne_eq, Decidable.not_not, bne_iff_ne, beq_iff_eq, beq_eq_false_iff_ne, Bool.not_true, Bool.not_false] at hc3
          refine wp_seq ?_
          refine wp_seq ?_
          refine rg ?_
          refine st (mvP rfl) ?_
          refine sc cl13 (keep_Next_ok _ _ _ _ _ hS (by omega) (by omega) (by omega)) rfl ?_
          rintro v125 w121 ⟨n7, rfl, n7_0, n7_1, hS, ho122⟩
          have hz126 := ho122.size
          replace hX := hX.out ho122 (by first | omega | (simp only [blk_some, hi1_some] at *; omega))
          replace hY := hY.out ho122 (by first | omega | (simp only [blk_some, hi1_some] at *; omega))
          replace hK := hK.out ho122 (by first | omega | (simp only [blk_some, hi1_some] at *; omega))
          replace hE := hE.step ho122 (by first | omega | (simp only [blk_some, hi1_some] at *; omega))
          refine st (y_eql rfl rfl) ?_
          refine rg_end ?_
          refine n_then ?_
          refine cnd rfl (fun hc4 => ?_) (fun hc4 => ?_)
          ·
            try simp only [decide_eq_true_eq, decide_eq_false_iff_not, Bool.not_eq_true', Bool.not_eq_false', Bool.and_eq_true, Bool.or_eq_true, Bool.or_eq_false_iff, Bool.cond_true_right, Bool.cond_false_right, Bool.cond_true_left, Bool.cond_false_left, ne_eq, Decidable.not_not, bne_iff_ne, beq_iff_eq, beq_eq_false_iff_ne, Bool.not_true, Bool.not_false] at hc4
            refine rg ?_
            refine st (asI rfl) ?_
            refine rg_end ?_
            refine n_then ?_
            refine wp_seq ?_
            refine rg ?_
            refine st (mvP rfl) ?_
            refine sc cl13 (keep_Next_ok _ _ _ _ _ hS (by omega) (by omega) (by omega)) rfl ?_
            rintro v131 w127 ⟨n8, rfl, n8_0, n8_1, hS, ho128⟩
            have hz132 := ho128.size
            replace hX := hX.out ho128 (by first | omega | (simp only [blk_some, hi1_some] at *; omega))
            replace hY := hY.out ho128 (by first | omega | (simp only [blk_some, hi1_some] at *; omega))
            replace hK := hK.out ho128 (by first | omega | (simp only [blk_some, hi1_some] at *; omega))
            replace hE := hE.step ho128 (by first | omega | (simp only [blk_some, hi1_some] at *; omega))
            refine st (y_sub rfl rfl (by omega)) ?_
            refine st (asI rfl) ?_
            refine rg_end ?_
            refine n_then ?_
            refine wp_seq ?_
            refine rg ?_
            refine st (mvP rfl) ?_
            refine st (mvI rfl) ?_
            refine st (mvI rfl) ?_
            refine sc cl25 (ilk_Free_ok S _ _ _ _ _ _ hX hI) rfl ?_
            rintro v137 w133 ⟨rfl, hX, ho134⟩
            have hz138 := ho134.size
            replace hY := hY.out ho134 (by first | omega | (simp only [blk_some, hi1_some] at *; omega))
            replace hS := hS.out ho134 (by first | omega | (simp only [blk_some, hi1_some] at *; omega))
            replace hK := hK.out ho134 (by first | omega | (simp only [blk_some, hi1_some] at *; omega))
            replace hE := hE.step ho134 (by first | omega | (simp only [blk_some, hi1_some] at *; omega))
            refine st (mvP rfl) ?_
            refine st (mvI rfl) ?_
            refine st (mvI rfl) ?_
            refine sc cl30 (rlk_Free_ok S _ _ _ _ _ _ hY hI) rfl ?_
            rintro v143 w139 ⟨rfl, hY, ho140⟩
            have hz144 := ho140.size
            replace hX := hX.out ho140 (by first | omega | (simp only [blk_some, hi1_some] at *; omega))
            replace hS := hS.out ho140 (by first | omega | (simp only [blk_some, hi1_some] at *; omega))
            replace hK := hK.out ho140 (by first | omega | (simp only [blk_some, hi1_some] at *; omega))
            replace hE := hE.step ho140 (by first | omega | (simp only [blk_some, hi1_some] at *; omega))
            refine st (y_eql rfl rfl) ?_
            refine st (asB rfl) ?_
            refine rg_end ?_
            refine n_then ?_
            refine wp_ret ?_
            refine r_blk (r_then (ret1 (v := (.bool _)) Try.results20 rfl ?_))
            exact ⟨vb (by simp), _, IStep.free _ _, hX, hY, hS, hK, hE⟩
          ·
            try simp only [decide_eq_true_eq, decide_eq_false_iff_not, Bool.not_eq_true', Bool.not_eq_false', Bool.and_eq_true, Bool.or_eq_true, Bool.or_eq_false_iff, Bool.cond_true_right, Bool.cond_false_right, Bool.cond_true_left, Bool.cond_false_left, ne_eq, Decidable.not_not, bne_iff_ne, beq_iff_eq, beq_eq_false_iff_ne, Bool.not_true, Bool.not_false] at hc4
            refine wp_skip ?_
            refine n_then ?_
            refine wp_seq ?_
            refine rg ?_
            refine st (mvP rfl) ?_
            refine sc cl13 (keep_Next_ok _ _ _ _ _ hS (by omega) (by omega) (by omega)) rfl ?_
            rintro v149 w145 ⟨n8, rfl, n8_0, n8_1, hS, ho146⟩
            have hz150 := ho146.size
            replace hX := hX.out ho146 (by first | omega | (simp only [blk_some, hi1_some] at *; omega))
            replace hY := hY.out ho146 (by first | omega | (simp only [blk_some, hi1_some] at *; omega))
            replace hK := hK.out ho146 (by first | omega | (simp only [blk_some, hi1_some] at *; omega))
            replace hE := hE.step ho146 (by first | omega | (simp only [blk_some, hi1_some] at *; omega))
            refine st (y_sub rfl rfl (by omega)) ?_
            refine st (asI rfl) ?_
            refine rg_end ?_
            refine n_then ?_
            refine wp_seq ?_
            refine rg ?_
            refine st (mvP rfl) ?_
            refine st (mvI rfl) ?_
            refine st (mvI rfl) ?_
            refine sc cl25 (ilk_Free_ok S _ _ _ _ _ _ hX hI) rfl ?_
            rintro v155 w151 ⟨rfl, hX, ho152⟩
            have hz156 := ho152.size
            replace hY := hY.out ho152 (by first | omega | (simp only [blk_some, hi1_some] at *; omega))
            replace hS := hS.out ho152 (by first | omega | (simp only [blk_some, hi1_some] at *; omega))
            replace hK := hK.out ho152 (by first | omega | (simp only [blk_some, hi1_some] at *; omega))
            replace hE := hE.step ho152 (by first | omega | (simp only [blk_some, hi1_some] at *; omega))
            refine st (mvP rfl) ?_
            refine st (mvI rfl) ?_
            refine st (mvI rfl) ?_
            refine sc cl30 (rlk_Free_ok S _ _ _ _ _ _ hY hI) rfl ?_
            rintro v161 w157 ⟨rfl, hY, ho158⟩
            have hz162 := ho158.size
            replace hX := hX.out ho158 (by first | omega | (simp only [blk_some, hi1_some] at *; omega))
            replace hS := hS.out ho158 (by first | omega | (simp only [blk_some, hi1_some] at *; omega))
            replace hK := hK.out ho158 (by first | omega | (simp only [blk_some, hi1_some] at *; omega))
            replace hE := hE.step ho158 (by first | omega | (simp only [blk_some, hi1_some] at *; omega))
            refine st (y_eql rfl rfl) ?_
            refine st (asB rfl) ?_
            refine rg_end ?_
            refine n_then ?_
            refine wp_ret ?_
            refine r_blk (r_then (ret1 (v := (.bool _)) Try.results20 rfl ?_))
            exact ⟨vb (by simp), _, IStep.free _ _, hX, hY, hS, hK, hE⟩
        ·
          try simp only [decide_eq_true_eq, decide_eq_false_iff_not, Bool.not_eq_true', Bool.not_eq_false', Bool.and_eq_true, Bool.or_eq_true, Bool.or_eq_false_iff, Bool.cond_true_right, Bool.cond_false_right, Bool.cond_true_left, Bool.cond_false_left, ne_eq, Decidable.not_not, bne_iff_ne, beq_iff_eq, beq_eq_false_iff_ne, Bool.not_true, Bool.not_false] at hc3
          refine wp_skip ?_
          refine n_blk ?_
          refine n_then ?_
          refine wp_seq ?_
          refine rg ?_
          refine st (mvP rfl) ?_
          refine sc cl33 (law32_locks_ok _ _ _ _ hS (by omega) (by omega)) rfl ?_
          rintro v167 w163 ⟨al, cl, l, rfl, hl3, hL, hS, ho164⟩
          have hz168 := ho164.size
          replace hX := hX.out ho164 (by first | omega | (simp only [blk_some, hi1_some] at *; omega))
          replace hY := hY.out ho164 (by first | omega | (simp only [blk_some, hi1_some] at *; omega))
          replace hK := hK.out ho164 (by first | omega | (simp only [blk_some, hi1_some] at *; omega))
          replace hE := hE.step ho164 (by first | omega | (simp only [blk_some, hi1_some] at *; omega))
          refine st (asS rfl) ?_
          refine rg_end ?_
          refine n_then ?_
          refine wp_seq ?_
          refine rg ?_
          refine st (mvP rfl) ?_
          refine st (mvI rfl) ?_
          refine st (mvS rfl) ?_
          refine sc cl22 (ilk_Grant_ok S _ _ _ _ l _ _ _ _ _ hX hI (Ow.sl hL) (by omega) (by omega) (by omega)) rfl ?_
          rintro v173 w169 ⟨rfl, hX, ho170⟩
          have hz174 := ho170.size
          replace hY := hY.out ho170 (by first | omega | (simp only [blk_some, hi1_some] at *; omega))
          replace hS := hS.out ho170 (by first | omega | (simp only [blk_some, hi1_some] at *; omega))
          replace hK := hK.out ho170 (by first | omega | (simp only [blk_some, hi1_some] at *; omega))
          replace hE := hE.step ho170 (by first | omega | (simp only [blk_some, hi1_some] at *; omega))
          have hrnhL := hL.rng
          replace hL := hL.out ho170 (by first | omega | (simp only [blk_some, hi1_some] at *; omega))
          refine st (mvP rfl) ?_
          refine st (mvI rfl) ?_
          refine st (mvS rfl) ?_
          refine sc cl29 (rlk_Grant_ok S _ _ _ _ l _ _ _ _ _ hY hI (Ow.sl hL) (by omega) (by omega) (by omega)) rfl ?_
          rintro v179 w175 ⟨rfl, hY, ho176⟩
          have hz180 := ho176.size
          replace hX := hX.out ho176 (by first | omega | (simp only [blk_some, hi1_some] at *; omega))
          replace hS := hS.out ho176 (by first | omega | (simp only [blk_some, hi1_some] at *; omega))
          replace hK := hK.out ho176 (by first | omega | (simp only [blk_some, hi1_some] at *; omega))
          replace hE := hE.step ho176 (by first | omega | (simp only [blk_some, hi1_some] at *; omega))
          replace hL := hL.out ho176 (by first | omega | (simp only [blk_some, hi1_some] at *; omega))
          refine st (y_eql rfl rfl) ?_
          refine st (asB rfl) ?_
          refine rg_end ?_
          refine n_then ?_
          refine wp_ret ?_
          refine ret1 (v := (.bool _)) Try.results20 rfl ?_
          exact ⟨vb (by simp), _, IStep.grant _ _, hX, hY, hS, hK, hE⟩

set_option maxHeartbeats 1000000 in
set_option maxRecDepth 100000 in
theorem law32_InterlockScript_ok (a0 : Option Addr) (c0 : Nat) (l0 : List Int) (w : World) (hL0 : Ints 0 w.heap.size w a0 l0) (hl0 : (l0.length : Int) ≤ 9223372036854775807) : Cal Try.prog 7 [.slice a0 l0.length c0] w (fun v w' => v = .bool true ∧ Ext w w') := by
  have hE : Out 0 0 w w := Out.refl _ _ w
  refine enter Try.func7 rfl Try.ntmps7 rfl ?_
  refine wp_seq ?_
  refine rg ?_
  refine st (asB rfl) ?_
  refine rg_end ?_
  refine n_then ?_
  refine wp_seq ?_
  refine rg ?_
  refine st (mvS rfl) ?_
  refine sc cl12 (keep_From_ok _ _ _ _ _ _ hL0 hl0) rfl ?_
  rintro v5 w1 ⟨bs, rfl, hbs, hzs, hS, ho2⟩
  have hbs0 := hbs
  have hz6 := ho2.size
  replace hL0 := hL0.ext ho2
  replace hE := hE.step ho2 (.inl (Nat.le_refl _))
  refine st (asP rfl) ?_
  refine rg_end ?_
  refine n_then ?_
  refine wp_seq ?_
  refine rg ?_
  refine st (mvP rfl) ?_
  refine sc cl15 (law32_flanks_ok _ _ _ _ hS (by omega) (by omega)) rfl ?_
  rintro v11 w7 ⟨af, cf, fl, rfl, hmd, hF, hS, ho8⟩
  have hfl5 := hmd.len
  have hcf := hF.lenLe
  have hz12 := ho8.size
  replace hL0 := hL0.out ho8 (by first | omega | (simp only [blk_some, hi1_some] at *; omega))
  replace hE := hE.step ho8 (by first | omega | (simp only [blk_some, hi1_some] at *; omega))
  refine st (asS rfl) ?_
  refine rg_end ?_
  refine n_then ?_
  refine wp_seq ?_
  refine rg ?_
  refine st (mvS rfl) ?_
  refine sc cl10 (ilk_New_ok 6 fl _ _ _ _ _ (Ow.sl hF) hcf (by omega)) rfl ?_
  rintro v17 w13 ⟨p, e, rfl, he, hp0, hp1, ho14⟩
  obtain rfl : e = 0 := he.trans hmd.new
  obtain ⟨bx, rfl, hX⟩ := hp1 rfl
  obtain ⟨lx, hx, hlx, hhx, hX⟩ := hX.named
  have hI0 : IsOk (initS (6 : Int).toNat fl) := initS_ok hmd.new
  have hxr := hX.rng
  have hz18 := ho14.size
  replace hL0 := hL0.ext ho14
  replace hE := hE.step ho14 (.inl (Nat.le_refl _))
  replace hS := hS.ext ho14
  replace hF := hF.ext ho14
  refine st (mvT rfl) ?_
  refine st (y_ext rfl rfl) ?_
  refine st (y_ext rfl rfl) ?_
  refine st (asP rfl) ?_
  refine st (asI rfl) ?_
  refine rg_end ?_
  refine n_then ?_
  refine wp_seq ?_
  refine rg ?_
  refine st (mvS rfl) ?_
  refine sc cl11 (rlk_New_ok 6 fl _ _ _ _ _ (Ow.sl hF) hcf (by omega)) rfl ?_
  rintro v23 w19 ⟨p', e', rfl, he', hp0', hp1', ho20⟩
  obtain rfl : e' = 0 := he'.trans hmd.new
  obtain ⟨yb, rfl, hY⟩ := hp1' rfl
  obtain ⟨ly, hy, hly, hhy, hY⟩ := hY.named
  have hyr := hY.rng
  have hz24 := ho20.size
  replace hL0 := hL0.ext ho20
  replace hE := hE.step ho20 (.inl (Nat.le_refl _))
  replace hS := hS.ext ho20
  replace hF := hF.ext ho20
  replace hX := hX.ext ho20
  refine st (mvT rfl) ?_
  refine st (y_ext rfl rfl) ?_
  refine st (y_ext rfl rfl) ?_
  refine st (asP rfl) ?_
  refine st (asI rfl) ?_
  refine rg_end ?_
  refine n_then ?_
  refine wp_seq ?_
  refine wp_seq ?_
  refine rg ?_
  refine st (mvI rfl) ?_
  refine st (y_neq rfl rfl) ?_
  refine st (mvB rfl) ?_
  refine stg rfl rfl (by decide) (mvP rfl) ?_
  refine stg rfl rfl (by decide) (y_nilP ptr24 rfl rfl) ?_
  refine st (y_pickF rfl (by decide) (v := .bool _) rfl) ?_
  refine st (mvB rfl) ?_
  refine stg rfl rfl (show (some (⟨bx, 0, none⟩ : Addr)).isNone = false from rfl) (mvP rfl) ?_
  refine stg rfl rfl (show (some (⟨bx, 0, none⟩ : Addr)).isNone = false from rfl) (y_nilP ptr28 rfl rfl) ?_
  refine st (y_pickF rfl (show (some (⟨bx, 0, none⟩ : Addr)).isNone = false from rfl) (v := .bool _) rfl) ?_
  refine rg_end ?_
  refine n_then ?_
  refine cnd rfl (fun hc0 => absurd ((show (some (⟨yb, 0, none⟩ : Addr)).isNone = false from rfl).symm.trans hc0) (by decide)) (fun hc0 => ?_)
  refine wp_skip ?_
  refine n_then ?_
  refine wp_seq ?_
  refine wp_seq ?_
  refine rg ?_
  refine st (asI rfl) ?_
  refine rg_end ?_
  refine n_then ?_
  refine wp_block ?_
  refine lp (γ := Nat × IS) [2, 9, 34, 35, 36, 37, 38, 39, 40, 41, 42, 43, 44, 45, 46, 47, 48, 49, 50, 51, 52] (fun ⟨k, S⟩ => [(9, .int .i64 (k : Int))]) (fun ⟨k, S⟩ w_ => Out bs hy w19 w_ ∧ (k : Int) ≤ 40 ∧ IsOk S ∧ Ilk lx hx bx w_ S ∧ Rlk ly hy yb w_ S ∧ Src 0 w.heap.size bs w_) (fun ⟨k, S⟩ => 40 - k) (0, initS (6 : Int).toNat fl) ⟨rfl, trivial⟩ ⟨Out.refl _ _ _, by decide, hI0, hX, hY, hS⟩ ?_
  rintro ⟨k, S⟩ hav_ w25 ⟨ho26, hk, hI, hX, hY, hS⟩
  have hlp0 := ho26
  have hz27 := ho26.size
  replace hL0 := hL0.out ho26 (by first | omega | (simp only [blk_some, hi1_some] at *; omega))
  replace hE := hE.step ho26 (by first | omega | (simp only [blk_some, hi1_some] at *; omega))
  refine wp_seq ?_
  refine wp_seq ?_
  refine rg ?_
  refine st (mvI rfl) ?_
  refine st (y_lss rfl rfl) ?_
  refine st (mvB rfl) ?_
  refine gspL 36 rfl (fun hg28 => ?_) (fun hg28 => ?_)
  ·
    have hg28n := hg28; try simp only [decide_eq_true_eq, decide_eq_false_iff_not, Bool.not_eq_true', Bool.not_eq_false', Bool.and_eq_true, Bool.or_eq_true, Bool.or_eq_false_iff, Bool.cond_true_right, Bool.cond_false_right, Bool.cond_true_left, Bool.cond_false_left, ne_eq, Decidable.not_not, bne_iff_ne, beq_iff_eq, beq_eq_false_iff_ne, Bool.not_true, Bool.not_false] at hg28n
    refine stg rfl rfl hg28 (mvP rfl) ?_
    refine scg rfl rfl hg28 cl16 (keep_Left_ok _ _ _ _ hS) rfl ?_
    rintro v33 w29 ⟨q32, rfl, ho30⟩
    have hz34 := ho30.size
    replace hL0 := hL0.ext ho30
    replace hE := hE.step ho30 (.inl (Nat.le_refl _))
    replace hX := hX.ext ho30
    replace hY := hY.ext ho30
    replace hS := hS.ext ho30
    replace hlp0 := hlp0.step ho30 (.inl (Nat.le_refl _))
    refine st (y_pickT rfl hg28 (v := .bool _) rfl) ?_
    refine rg_end ?_
    refine n_then ?_
    refine cnd rfl (fun hc1 => ?_) (fun hc1 => ?_)
    ·
      try simp only [decide_eq_true_eq, decide_eq_false_iff_not, Bool.not_eq_true', Bool.not_eq_false', Bool.and_eq_true, Bool.or_eq_true, Bool.or_eq_false_iff, Bool.cond_true_right, Bool.cond_false_right, Bool.cond_true_left, Bool.cond_false_left, ne_eq, Decidable.not_not, bne_iff_ne, beq_iff_eq, beq_eq_false_iff_ne, Bool.not_true, Bool.not_false] at hc1
      refine wp_skip ?_
      refine n_then ?_
      refine wp_seq ?_
      refine wp_block ?_
      refine wp_seq ?_
      refine rg ?_
      refine st (mvP rfl) ?_
      refine st (mvP rfl) ?_
      refine st (mvP rfl) ?_
      refine sc cl20 (law32_act_ok S lx hx bx ly hy yb _ _ bs bs _ hX hY hI hS (by omega) (by omega) (by omega) (by omega) (by omega)) rfl ?_
      rintro v39 w35 ⟨rfl, S', hst, hX, hY, hS, hK, ho36⟩
      have hI' := hst.ok hI
      have hz40 := ho36.size
      replace hL0 := hL0.out ho36 (by first | omega | (simp only [blk_some, hi1_some] at *; omega))
      replace hE := hE.step ho36 (by first | omega | (simp only [blk_some, hi1_some] at *; omega))
      replace hlp0 := hlp0.step ho36 (by first | omega | (simp only [blk_some, hi1_some] at *; omega))
      refine st (y_not rfl) ?_
      refine st (mvB rfl) ?_
      refine stg rfl rfl rfl (mvP rfl) ?_
      refine stg rfl rfl rfl (mvP rfl) ?_
      refine scg rfl rfl rfl cl28 (law32_agrees_ok S' _ _ _ _ _ _ _ hX hY hI') rfl ?_
      rintro v45 w41 ⟨rfl, ho42⟩
      have hz46 := ho42.size
      replace hL0 := hL0.ext ho42
      replace hE := hE.step ho42 (.inl (Nat.le_refl _))
      replace hX := hX.ext ho42
      replace hY := hY.ext ho42
      replace hS := hS.ext ho42
      replace hlp0 := hlp0.step ho42 (.inl (Nat.le_refl _))
      refine stg rfl rfl rfl (y_not rfl) ?_
      refine st (y_pickF rfl rfl (v := .bool _) rfl) ?_
      refine rg_end ?_
      refine n_then ?_
      refine cnd rfl (fun hc2 => absurd hc2 (by decide)) (fun hc2 => ?_)
      refine wp_skip ?_
      refine n_blk ?_
      refine n_then ?_
      refine rg ?_
      refine st (mvI rfl) ?_
      refine st (y_add rfl rfl (by omega)) ?_
      refine st (asI rfl) ?_
      refine rg_end ?_
      exact n_then ⟨(k + 1, S'), _, rfl, same_lk rfl (same_h0), ⟨rfl, trivial⟩, ⟨hlp0, by omega, hI', hX, hY, hS⟩, by first | omega | (dsimp only; omega)⟩
    ·
      try simp only [decide_eq_true_eq, decide_eq_false_iff_not, Bool.not_eq_true', Bool.not_eq_false', Bool.and_eq_true, Bool.or_eq_true, Bool.or_eq_false_iff, Bool.cond_true_right, Bool.cond_false_right, Bool.cond_true_left, Bool.cond_false_left, ne_eq, Decidable.not_not, bne_iff_ne, beq_iff_eq, beq_eq_false_iff_ne, Bool.not_true, Bool.not_false] at hc1
      refine wp_exit ?_
      refine e_then (e_then (e_blk (?_)))
      refine n_then ?_
      refine wp_seq ?_
      refine rg ?_
      refine sc cl14 (law32_awake_ok _) rfl ?_
      rintro v51 w47 ⟨rfl, ho48⟩
      have hz52 := ho48.size
      replace hL0 := hL0.ext ho48
      replace hE := hE.step ho48 (.inl (Nat.le_refl _))
      replace hX := hX.ext ho48
      replace hY := hY.ext ho48
      replace hS := hS.ext ho48
      refine st (mvB rfl) ?_
      refine stg rfl rfl rfl (mvP rfl) ?_
      refine stg rfl rfl rfl (mvP rfl) ?_
      refine scg rfl rfl rfl cl28 (law32_agrees_ok S _ _ _ _ _ _ _ hX hY hI) rfl ?_
      rintro v57 w53 ⟨rfl, ho54⟩
      have hz58 := ho54.size
      replace hL0 := hL0.ext ho54
      replace hE := hE.step ho54 (.inl (Nat.le_refl _))
      replace hX := hX.ext ho54
      replace hY := hY.ext ho54
      replace hS := hS.ext ho54
      refine st (y_pickT rfl rfl (v := .bool _) rfl) ?_
      refine st (asB rfl) ?_
      refine rg_end ?_
      refine n_then ?_
      refine wp_ret ?_
      refine ret1 (v := (.bool _)) Try.results7 rfl ?_
      exact ⟨rfl, hE⟩
  ·
    have hg28n := hg28; try simp only [decide_eq_true_eq, decide_eq_false_iff_not, Bool.not_eq_true', Bool.not_eq_false', Bool.and_eq_true, Bool.or_eq_true, Bool.or_eq_false_iff, Bool.cond_true_right, Bool.cond_false_right, Bool.cond_true_left, Bool.cond_false_left, ne_eq, Decidable.not_not, bne_iff_ne, beq_iff_eq, beq_eq_false_iff_ne, Bool.not_true, Bool.not_false] at hg28n
    refine sts rfl rfl hg28 ?_
    refine sts rfl rfl hg28 ?_
    refine st (y_pickF rfl hg28 (v := .bool _) rfl) ?_
    refine rg_end ?_
    refine n_then ?_
    refine cnd rfl (fun hc1 => absurd hc1 (by decide)) (fun hc1 => ?_)
    refine wp_exit ?_
    refine e_then (e_then (e_blk (?_)))
    refine n_then ?_
    refine wp_seq ?_
    refine rg ?_
    refine sc cl14 (law32_awake_ok _) rfl ?_
    rintro v63 w59 ⟨rfl, ho60⟩
    have hz64 := ho60.size
    replace hL0 := hL0.ext ho60
    replace hE := hE.step ho60 (.inl (Nat.le_refl _))
    replace hX := hX.ext ho60
    replace hY := hY.ext ho60
    replace hS := hS.ext ho60
    refine st (mvB rfl) ?_
    refine stg rfl rfl rfl (mvP rfl) ?_
    refine stg rfl rfl rfl (mvP rfl) ?_
    refine scg rfl rfl rfl cl28 (law32_agrees_ok S _ _ _ _ _ _ _ hX hY hI) rfl ?_
    rintro v69 w65 ⟨rfl, ho66⟩
    have hz70 := ho66.size
    replace hL0 := hL0.ext ho66
    replace hE := hE.step ho66 (.inl (Nat.le_refl _))
    replace hX := hX.ext ho66
    replace hY := hY.ext ho66
    replace hS := hS.ext ho66
    refine st (y_pickT rfl rfl (v := .bool _) rfl) ?_
    refine st (asB rfl) ?_
    refine rg_end ?_
    refine n_then ?_
    refine wp_ret ?_
    refine ret1 (v := (.bool _)) Try.results7 rfl ?_
    exact ⟨rfl, hE⟩

set_option maxHeartbeats 1000000 in
set_option maxRecDepth 100000 in
theorem law32_InterlockRaw_ok (a0 : Option Addr) (c0 : Nat) (l0 : List Int) (t : Int) (al : Option Addr) (cl : Nat) (l : List Lk) (r x : Int) (w : World) (hL0 : Ints 0 w.heap.size w a0 l0) (hl0 : (l0.length : Int) ≤ 9223372036854775807) (hL : Sl encLk 2 0 w.heap.size w al l) (hl : (l.length : Int) ≤ 9223372036854775807) : Cal Try.prog 8 [.slice a0 l0.length c0, .int .i64 t, .slice al l.length cl, .int .i64 r, .int .i64 x] w (fun v w' => v = .bool true ∧ Ext w w') := by
  have hE : Out 0 0 w w := Out.refl _ _ w
  refine enter Try.func8 rfl Try.ntmps8 rfl ?_
  refine wp_seq ?_
  refine rg ?_
  refine st (asB rfl) ?_
  refine rg_end ?_
  refine n_then ?_
  refine wp_seq ?_
  refine rg ?_
  refine st (mvS rfl) ?_
  refine sc cl12 (keep_From_ok _ _ _ _ _ _ hL0 hl0) rfl ?_
  rintro v5 w1 ⟨bs, rfl, hbs, hzs, hS, ho2⟩
  have hbs0 := hbs
  have hz6 := ho2.size
  replace hL0 := hL0.ext ho2
  replace hL := hL.ext ho2
  replace hE := hE.step ho2 (.inl (Nat.le_refl _))
  refine st (asP rfl) ?_
  refine rg_end ?_
  refine n_then ?_
  refine wp_seq ?_
  refine rg ?_
  refine st (mvP rfl) ?_
  refine sc cl15 (law32_flanks_ok _ _ _ _ hS (by omega) (by omega)) rfl ?_
  rintro v11 w7 ⟨af, cf, fl, rfl, hmd, hF, hS, ho8⟩
  have hfl5 := hmd.len
  have hcf := hF.lenLe
  have hz12 := ho8.size
  replace hL0 := hL0.out ho8 (by first | omega | (simp only [blk_some, hi1_some] at *; omega))
  replace hL := hL.out ho8 (by first | omega | (simp only [blk_some, hi1_some] at *; omega))
  replace hE := hE.step ho8 (by first | omega | (simp only [blk_some, hi1_some] at *; omega))
  refine st (asS rfl) ?_
  refine rg_end ?_
  refine n_then ?_
  refine wp_seq ?_
  refine rg ?_
  refine st (mvS rfl) ?_
  refine sc cl10 (ilk_New_ok 6 fl _ _ _ _ _ (Ow.sl hF) hcf (by omega)) rfl ?_
  rintro v17 w13 ⟨p, e, rfl, he, hp0, hp1, ho14⟩
  obtain rfl : e = 0 := he.trans hmd.new
  obtain ⟨bx, rfl, hX⟩ := hp1 rfl
  obtain ⟨lx, hx, hlx, hhx, hX⟩ := hX.named
  have hI0 : IsOk (initS (6 : Int).toNat fl) := initS_ok hmd.new
  have hxr := hX.rng
  have hz18 := ho14.size
  replace hL0 := hL0.ext ho14
  replace hL := hL.ext ho14
  replace hE := hE.step ho14 (.inl (Nat.le_refl _))
  replace hS := hS.ext ho14
  replace hF := hF.ext ho14
  refine st (mvT rfl) ?_
  refine st (y_ext rfl rfl) ?_
  refine st (y_ext rfl rfl) ?_
  refine st (asP rfl) ?_
  refine st (asI rfl) ?_
  refine rg_end ?_
  refine n_then ?_
  refine wp_seq ?_
  refine rg ?_
  refine st (mvS rfl) ?_
  refine sc cl11 (rlk_New_ok 6 fl _ _ _ _ _ (Ow.sl hF) hcf (by omega)) rfl ?_
  rintro v23 w19 ⟨p', e', rfl, he', hp0', hp1', ho20⟩
  obtain rfl : e' = 0 := he'.trans hmd.new
  obtain ⟨yb, rfl, hY⟩ := hp1' rfl
  obtain ⟨ly, hy, hly, hhy, hY⟩ := hY.named
  have hyr := hY.rng
  have hz24 := ho20.size
  replace hL0 := hL0.ext ho20
  replace hL := hL.ext ho20
  replace hE := hE.step ho20 (.inl (Nat.le_refl _))
  replace hS := hS.ext ho20
  replace hF := hF.ext ho20
  replace hX := hX.ext ho20
  refine st (mvT rfl) ?_
  refine st (y_ext rfl rfl) ?_
  refine st (y_ext rfl rfl) ?_
  refine st (asP rfl) ?_
  refine st (asI rfl) ?_
  refine rg_end ?_
  refine n_then ?_
  refine wp_seq ?_
  refine wp_seq ?_
  refine rg ?_
  refine st (mvI rfl) ?_
  refine st (y_neq rfl rfl) ?_
  refine st (mvB rfl) ?_
  refine stg rfl rfl (by decide) (mvP rfl) ?_
  refine stg rfl rfl (by decide) (y_nilP ptr24 rfl rfl) ?_
  refine st (y_pickF rfl (by decide) (v := .bool _) rfl) ?_
  refine st (mvB rfl) ?_
  refine stg rfl rfl (show (some (⟨bx, 0, none⟩ : Addr)).isNone = false from rfl) (mvP rfl) ?_
  refine stg rfl rfl (show (some (⟨bx, 0, none⟩ : Addr)).isNone = false from rfl) (y_nilP ptr28 rfl rfl) ?_
  refine st (y_pickF rfl (show (some (⟨bx, 0, none⟩ : Addr)).isNone = false from rfl) (v := .bool _) rfl) ?_
  refine rg_end ?_
  refine n_then ?_
  refine cnd rfl (fun hc0 => absurd ((show (some (⟨yb, 0, none⟩ : Addr)).isNone = false from rfl).symm.trans hc0) (by decide)) (fun hc0 => ?_)
  refine wp_skip ?_
  refine n_then ?_
  refine wp_seq ?_
  refine wp_seq ?_
  refine rg ?_
  refine st (asI rfl) ?_
  refine rg_end ?_
  refine n_then ?_
  refine wp_block ?_
  refine lp (γ := Nat × IS) [10, 17, 42, 43, 44, 45, 46, 47, 48, 49, 50, 51, 52, 53, 54] (fun ⟨k, S⟩ => [(17, .int .i64 (k : Int))]) (fun ⟨k, S⟩ w_ => Out bs hy w19 w_ ∧ (k : Int) ≤ 6 ∧ IsOk S ∧ Ilk lx hx bx w_ S ∧ Rlk ly hy yb w_ S ∧ Src 0 w.heap.size bs w_) (fun ⟨k, S⟩ => 6 - k) (0, initS (6 : Int).toNat fl) ⟨rfl, trivial⟩ ⟨Out.refl _ _ _, by decide, hI0, hX, hY, hS⟩ ?_
  rintro ⟨k, S⟩ hav_ w25 ⟨ho26, hk, hI, hX, hY, hS⟩
  have hlp0 := ho26
  have hz27 := ho26.size
  replace hL0 := hL0.out ho26 (by first | omega | (simp only [blk_some, hi1_some] at *; omega))
  replace hL := hL.out ho26 (by first | omega | (simp only [blk_some, hi1_some] at *; omega))
  replace hE := hE.step ho26 (by first | omega | (simp only [blk_some, hi1_some] at *; omega))
  refine wp_seq ?_
  refine wp_seq ?_
  refine rg ?_
  refine st (mvI rfl) ?_
  refine st (y_lss rfl rfl) ?_
  refine st (mvB rfl) ?_
  refine gspL 44 rfl (fun hg28 => ?_) (fun hg28 => ?_)
  ·
    have hg28n := hg28; try simp only [decide_eq_true_eq, decide_eq_false_iff_not, Bool.not_eq_true', Bool.not_eq_false', Bool.and_eq_true, Bool.or_eq_true, Bool.or_eq_false_iff, Bool.cond_true_right, Bool.cond_false_right, Bool.cond_true_left, Bool.cond_false_left, ne_eq, Decidable.not_not, bne_iff_ne, beq_iff_eq, beq_eq_false_iff_ne, Bool.not_true, Bool.not_false] at hg28n
    refine stg rfl rfl hg28 (mvP rfl) ?_
    refine scg rfl rfl hg28 cl16 (keep_Left_ok _ _ _ _ hS) rfl ?_
    rintro v33 w29 ⟨q32, rfl, ho30⟩
    have hz34 := ho30.size
    replace hL0 := hL0.ext ho30
    replace hL := hL.ext ho30
    replace hE := hE.step ho30 (.inl (Nat.le_refl _))
    replace hX := hX.ext ho30
    replace hY := hY.ext ho30
    replace hS := hS.ext ho30
    replace hlp0 := hlp0.step ho30 (.inl (Nat.le_refl _))
    refine st (y_pickT rfl hg28 (v := .bool _) rfl) ?_
    refine rg_end ?_
    refine n_then ?_
    refine cnd rfl (fun hc1 => ?_) (fun hc1 => ?_)
    ·
      try simp only [decide_eq_true_eq, decide_eq_false_iff_not, Bool.not_eq_true', Bool.not_eq_false', Bool.and_eq_true, Bool.or_eq_true, Bool.or_eq_false_iff, Bool.cond_true_right, Bool.cond_false_right, Bool.cond_true_left, Bool.cond_false_left, ne_eq, Decidable.not_not, bne_iff_ne, beq_iff_eq, beq_eq_false_iff_ne, Bool.not_true, Bool.not_false] at hc1
      refine wp_skip ?_
      refine n_then ?_
      refine wp_seq ?_
      refine wp_block ?_
      refine wp_seq ?_
      refine rg ?_
      refine st (mvP rfl) ?_
      refine st (mvP rfl) ?_
      refine st (mvP rfl) ?_
      refine sc cl20 (law32_act_ok S lx hx bx ly hy yb _ _ bs bs _ hX hY hI hS (by omega) (by omega) (by omega) (by omega) (by omega)) rfl ?_
      rintro v39 w35 ⟨rfl, S', hst, hX, hY, hS, hK, ho36⟩
      have hI' := hst.ok hI
      have hz40 := ho36.size
      replace hL0 := hL0.out ho36 (by first | omega | (simp only [blk_some, hi1_some] at *; omega))
      replace hL := hL.out ho36 (by first | omega | (simp only [blk_some, hi1_some] at *; omega))
      replace hE := hE.step ho36 (by first | omega | (simp only [blk_some, hi1_some] at *; omega))
      replace hlp0 := hlp0.step ho36 (by first | omega | (simp only [blk_some, hi1_some] at *; omega))
      refine st (y_not rfl) ?_
      refine rg_end ?_
      refine n_then ?_
      refine cnd rfl (fun hc2 => absurd hc2 (by decide)) (fun hc2 => ?_)
      refine wp_skip ?_
      refine n_blk ?_
      refine n_then ?_
      refine rg ?_
      refine st (mvI rfl) ?_
      refine st (y_add rfl rfl (by omega)) ?_
      refine st (asI rfl) ?_
      refine rg_end ?_
      exact n_then ⟨(k + 1, S'), _, rfl, same_lk rfl (same_h0), ⟨rfl, trivial⟩, ⟨hlp0, by omega, hI', hX, hY, hS⟩, by first | omega | (dsimp only; omega)⟩
    ·
      try simp only [decide_eq_true_eq, decide_eq_false_iff_not, Bool.not_eq_true', Bool.not_eq_false', Bool.and_eq_true, Bool.or_eq_true, Bool.or_eq_false_iff, Bool.cond_true_right, Bool.cond_false_right, Bool.cond_true_left, Bool.cond_false_left, ne_eq, Decidable.not_not, bne_iff_ne, beq_iff_eq, beq_eq_false_iff_ne, Bool.not_true, Bool.not_false] at hc1
      refine wp_exit ?_
      refine e_then (e_then (e_blk (?_)))
      refine n_then ?_
      refine wp_seq ?_
      refine rg ?_
      refine sc cl14 (law32_awake_ok _) rfl ?_
      rintro v45 w41 ⟨rfl, ho42⟩
      have hz46 := ho42.size
      replace hL0 := hL0.ext ho42
      replace hL := hL.ext ho42
      replace hE := hE.step ho42 (.inl (Nat.le_refl _))
      replace hX := hX.ext ho42
      replace hY := hY.ext ho42
      replace hS := hS.ext ho42
      refine st (mvB rfl) ?_
      refine stg rfl rfl rfl (mvP rfl) ?_
      refine stg rfl rfl rfl (mvI rfl) ?_
      refine stg rfl rfl rfl (mvS rfl) ?_
      refine scg rfl rfl rfl cl22 (ilk_Grant_ok S _ _ _ _ l _ _ _ _ _ hX hI hL hl (by omega) (by omega)) rfl ?_
      rintro v51 w47 ⟨rfl, hX, ho48⟩
      have hz52 := ho48.size
      replace hL0 := hL0.out ho48 (by first | omega | (simp only [blk_some, hi1_some] at *; omega))
      replace hL := hL.out ho48 (by first | omega | (simp only [blk_some, hi1_some] at *; omega))
      replace hE := hE.step ho48 (by first | omega | (simp only [blk_some, hi1_some] at *; omega))
      replace hY := hY.out ho48 (by first | omega | (simp only [blk_some, hi1_some] at *; omega))
      replace hS := hS.out ho48 (by first | omega | (simp only [blk_some, hi1_some] at *; omega))
      refine stg rfl rfl rfl (mvP rfl) ?_
      refine stg rfl rfl rfl (mvI rfl) ?_
      refine stg rfl rfl rfl (mvS rfl) ?_
      refine scg rfl rfl rfl cl29 (rlk_Grant_ok S _ _ _ _ l _ _ _ _ _ hY hI hL hl (by omega) (by omega)) rfl ?_
      rintro v57 w53 ⟨rfl, hY, ho54⟩
      have hI1 := grantS_ok hI t l
      have hz58 := ho54.size
      replace hL0 := hL0.out ho54 (by first | omega | (simp only [blk_some, hi1_some] at *; omega))
      replace hL := hL.out ho54 (by first | omega | (simp only [blk_some, hi1_some] at *; omega))
      replace hE := hE.step ho54 (by first | omega | (simp only [blk_some, hi1_some] at *; omega))
      replace hX := hX.out ho54 (by first | omega | (simp only [blk_some, hi1_some] at *; omega))
      replace hS := hS.out ho54 (by first | omega | (simp only [blk_some, hi1_some] at *; omega))
      refine stg rfl rfl rfl (y_eql rfl rfl) ?_
      refine st (y_pickT rfl rfl (v := .bool _) rfl) ?_
      refine st (mvB rfl) ?_
      refine stg rfl rfl (decide_eq_true rfl) (mvP rfl) ?_
      refine stg rfl rfl (decide_eq_true rfl) (mvI rfl) ?_
      refine stg rfl rfl (decide_eq_true rfl) (mvI rfl) ?_
      refine scg rfl rfl (decide_eq_true rfl) cl25 (ilk_Free_ok _ _ _ _ _ _ _ hX hI1) rfl ?_
      rintro v63 w59 ⟨rfl, hX, ho60⟩
      have hz64 := ho60.size
      replace hL0 := hL0.out ho60 (by first | omega | (simp only [blk_some, hi1_some] at *; omega))
      replace hL := hL.out ho60 (by first | omega | (simp only [blk_some, hi1_some] at *; omega))
      replace hE := hE.step ho60 (by first | omega | (simp only [blk_some, hi1_some] at *; omega))
      replace hY := hY.out ho60 (by first | omega | (simp only [blk_some, hi1_some] at *; omega))
      replace hS := hS.out ho60 (by first | omega | (simp only [blk_some, hi1_some] at *; omega))
      refine stg rfl rfl (decide_eq_true rfl) (mvP rfl) ?_
      refine stg rfl rfl (decide_eq_true rfl) (mvI rfl) ?_
      refine stg rfl rfl (decide_eq_true rfl) (mvI rfl) ?_
      refine scg rfl rfl (decide_eq_true rfl) cl30 (rlk_Free_ok _ _ _ _ _ _ _ hY hI1) rfl ?_
      rintro v69 w65 ⟨rfl, hY, ho66⟩
      have hI2 := freeS_ok hI1 t r
      have hz70 := ho66.size
      replace hL0 := hL0.out ho66 (by first | omega | (simp only [blk_some, hi1_some] at *; omega))
      replace hL := hL.out ho66 (by first | omega | (simp only [blk_some, hi1_some] at *; omega))
      replace hE := hE.step ho66 (by first | omega | (simp only [blk_some, hi1_some] at *; omega))
      replace hX := hX.out ho66 (by first | omega | (simp only [blk_some, hi1_some] at *; omega))
      replace hS := hS.out ho66 (by first | omega | (simp only [blk_some, hi1_some] at *; omega))
      refine stg rfl rfl (decide_eq_true rfl) (y_eql rfl rfl) ?_
      refine st (y_pickT rfl (decide_eq_true rfl) (v := .bool _) rfl) ?_
      refine st (mvB rfl) ?_
      refine stg rfl rfl (decide_eq_true rfl) (mvP rfl) ?_
      refine stg rfl rfl (decide_eq_true rfl) (mvI rfl) ?_
      refine stg rfl rfl (decide_eq_true rfl) (mvI rfl) ?_
      refine scg rfl rfl (decide_eq_true rfl) cl24 (ilk_Report_ok _ _ _ _ _ _ _ hX hI2) rfl ?_
      rintro v75 w71 ⟨rfl, hX, ho72⟩
      have hz76 := ho72.size
      replace hL0 := hL0.out ho72 (by first | omega | (simp only [blk_some, hi1_some] at *; omega))
      replace hL := hL.out ho72 (by first | omega | (simp only [blk_some, hi1_some] at *; omega))
      replace hE := hE.step ho72 (by first | omega | (simp only [blk_some, hi1_some] at *; omega))
      replace hY := hY.out ho72 (by first | omega | (simp only [blk_some, hi1_some] at *; omega))
      replace hS := hS.out ho72 (by first | omega | (simp only [blk_some, hi1_some] at *; omega))
      refine stg rfl rfl (decide_eq_true rfl) (mvP rfl) ?_
      refine stg rfl rfl (decide_eq_true rfl) (mvI rfl) ?_
      refine stg rfl rfl (decide_eq_true rfl) (mvI rfl) ?_
      refine scg rfl rfl (decide_eq_true rfl) cl31 (rlk_Report_ok _ _ _ _ _ _ _ hY hI2) rfl ?_
      rintro v81 w77 ⟨rfl, hY, ho78⟩
      have hI3 := repS_ok hI2 r x
      have hz82 := ho78.size
      replace hL0 := hL0.out ho78 (by first | omega | (simp only [blk_some, hi1_some] at *; omega))
      replace hL := hL.out ho78 (by first | omega | (simp only [blk_some, hi1_some] at *; omega))
      replace hE := hE.step ho78 (by first | omega | (simp only [blk_some, hi1_some] at *; omega))
      replace hX := hX.out ho78 (by first | omega | (simp only [blk_some, hi1_some] at *; omega))
      replace hS := hS.out ho78 (by first | omega | (simp only [blk_some, hi1_some] at *; omega))
      refine stg rfl rfl (decide_eq_true rfl) (y_eqlB rfl rfl Try.underlying4) ?_
      refine st (y_pickT rfl (decide_eq_true rfl) (v := .bool _) rfl) ?_
      refine st (mvB rfl) ?_
      refine stg rfl rfl (by simp) (mvP rfl) ?_
      refine stg rfl rfl (by simp) (mvI rfl) ?_
      refine scg rfl rfl (by simp) cl23 (ilk_Close_ok _ _ _ _ _ _ _ hX hI3) rfl ?_
      rintro v87 w83 ⟨rfl, hX, ho84⟩
      have hz88 := ho84.size
      replace hL0 := hL0.out ho84 (by first | omega | (simp only [blk_some, hi1_some] at *; omega))
      replace hL := hL.out ho84 (by first | omega | (simp only [blk_some, hi1_some] at *; omega))
      replace hE := hE.step ho84 (by first | omega | (simp only [blk_some, hi1_some] at *; omega))
      replace hY := hY.out ho84 (by first | omega | (simp only [blk_some, hi1_some] at *; omega))
      replace hS := hS.out ho84 (by first | omega | (simp only [blk_some, hi1_some] at *; omega))
      refine stg rfl rfl (by simp) (mvP rfl) ?_
      refine stg rfl rfl (by simp) (mvI rfl) ?_
      refine scg rfl rfl (by simp) cl32 (rlk_Close_ok _ _ _ _ _ _ _ hY hI3) rfl ?_
      rintro v93 w89 ⟨rfl, hY, ho90⟩
      have hI4 := cloS_ok hI3 r true
      have hz94 := ho90.size
      replace hL0 := hL0.out ho90 (by first | omega | (simp only [blk_some, hi1_some] at *; omega))
      replace hL := hL.out ho90 (by first | omega | (simp only [blk_some, hi1_some] at *; omega))
      replace hE := hE.step ho90 (by first | omega | (simp only [blk_some, hi1_some] at *; omega))
      replace hX := hX.out ho90 (by first | omega | (simp only [blk_some, hi1_some] at *; omega))
      replace hS := hS.out ho90 (by first | omega | (simp only [blk_some, hi1_some] at *; omega))
      refine stg rfl rfl (by simp) (y_eqlB rfl rfl Try.underlying4) ?_
      refine st (y_pickT rfl (by simp) (v := .bool _) rfl) ?_
      refine st (mvB rfl) ?_
      refine stg rfl rfl (by simp) (mvP rfl) ?_
      refine stg rfl rfl (by simp) (mvP rfl) ?_
      refine scg rfl rfl (by simp) cl28 (law32_agrees_ok _ _ _ _ _ _ _ _ hX hY hI4) rfl ?_
      rintro v99 w95 ⟨rfl, ho96⟩
      have hz100 := ho96.size
      replace hL0 := hL0.ext ho96
      replace hL := hL.ext ho96
      replace hE := hE.step ho96 (.inl (Nat.le_refl _))
      replace hX := hX.ext ho96
      replace hY := hY.ext ho96
      replace hS := hS.ext ho96
      refine st (y_pickT rfl (by simp) (v := .bool _) rfl) ?_
      refine st (asB rfl) ?_
      refine rg_end ?_
      refine n_then ?_
      refine wp_ret ?_
      refine ret1 (v := (.bool _)) Try.results8 rfl ?_
      exact ⟨rfl, hE⟩
  ·
    have hg28n := hg28; try simp only [decide_eq_true_eq, decide_eq_false_iff_not, Bool.not_eq_true', Bool.not_eq_false', Bool.and_eq_true, Bool.or_eq_true, Bool.or_eq_false_iff, Bool.cond_true_right, Bool.cond_false_right, Bool.cond_true_left, Bool.cond_false_left, ne_eq, Decidable.not_not, bne_iff_ne, beq_iff_eq, beq_eq_false_iff_ne, Bool.not_true, Bool.not_false] at hg28n
    refine sts rfl rfl hg28 ?_
    refine sts rfl rfl hg28 ?_
    refine st (y_pickF rfl hg28 (v := .bool _) rfl) ?_
    refine rg_end ?_
    refine n_then ?_
    refine cnd rfl (fun hc1 => absurd hc1 (by decide)) (fun hc1 => ?_)
    refine wp_exit ?_
    refine e_then (e_then (e_blk (?_)))
    refine n_then ?_
    refine wp_seq ?_
    refine rg ?_
    refine sc cl14 (law32_awake_ok _) rfl ?_
    rintro v105 w101 ⟨rfl, ho102⟩
    have hz106 := ho102.size
    replace hL0 := hL0.ext ho102
    replace hL := hL.ext ho102
    replace hE := hE.step ho102 (.inl (Nat.le_refl _))
    replace hX := hX.ext ho102
    replace hY := hY.ext ho102
    replace hS := hS.ext ho102
    refine st (mvB rfl) ?_
    refine stg rfl rfl rfl (mvP rfl) ?_
    refine stg rfl rfl rfl (mvI rfl) ?_
    refine stg rfl rfl rfl (mvS rfl) ?_
    refine scg rfl rfl rfl cl22 (ilk_Grant_ok S _ _ _ _ l _ _ _ _ _ hX hI hL hl (by omega) (by omega)) rfl ?_
    rintro v111 w107 ⟨rfl, hX, ho108⟩
    have hz112 := ho108.size
    replace hL0 := hL0.out ho108 (by first | omega | (simp only [blk_some, hi1_some] at *; omega))
    replace hL := hL.out ho108 (by first | omega | (simp only [blk_some, hi1_some] at *; omega))
    replace hE := hE.step ho108 (by first | omega | (simp only [blk_some, hi1_some] at *; omega))
    replace hY := hY.out ho108 (by first | omega | (simp only [blk_some, hi1_some] at *; omega))
    replace hS := hS.out ho108 (by first | omega | (simp only [blk_some, hi1_some] at *; omega))
    refine stg rfl rfl rfl (mvP rfl) ?_
    refine stg rfl rfl rfl (mvI rfl) ?_
    refine stg rfl rfl rfl (mvS rfl) ?_
    refine scg rfl rfl rfl cl29 (rlk_Grant_ok S _ _ _ _ l _ _ _ _ _ hY hI hL hl (by omega) (by omega)) rfl ?_
    rintro v117 w113 ⟨rfl, hY, ho114⟩
    have hI1 := grantS_ok hI t l
    have hz118 := ho114.size
    replace hL0 := hL0.out ho114 (by first | omega | (simp only [blk_some, hi1_some] at *; omega))
    replace hL := hL.out ho114 (by first | omega | (simp only [blk_some, hi1_some] at *; omega))
    replace hE := hE.step ho114 (by first | omega | (simp only [blk_some, hi1_some] at *; omega))
    replace hX := hX.out ho114 (by first | omega | (simp only [blk_some, hi1_some] at *; omega))
    replace hS := hS.out ho114 (by first | omega | (simp only [blk_some, hi1_some] at *; omega))
    refine stg rfl rfl rfl (y_eql rfl rfl) ?_
    refine st (y_pickT rfl rfl (v := .bool _) rfl) ?_
    refine st (mvB rfl) ?_
    refine stg rfl rfl (decide_eq_true rfl) (mvP rfl) ?_
    refine stg rfl rfl (decide_eq_true rfl) (mvI rfl) ?_
    refine stg rfl rfl (decide_eq_true rfl) (mvI rfl) ?_
    refine scg rfl rfl (decide_eq_true rfl) cl25 (ilk_Free_ok _ _ _ _ _ _ _ hX hI1) rfl ?_
    rintro v123 w119 ⟨rfl, hX, ho120⟩
    have hz124 := ho120.size
    replace hL0 := hL0.out ho120 (by first | omega | (simp only [blk_some, hi1_some] at *; omega))
    replace hL := hL.out ho120 (by first | omega | (simp only [blk_some, hi1_some] at *; omega))
    replace hE := hE.step ho120 (by first | omega | (simp only [blk_some, hi1_some] at *; omega))
    replace hY := hY.out ho120 (by first | omega | (simp only [blk_some, hi1_some] at *; omega))
    replace hS := hS.out ho120 (by first | omega | (simp only [blk_some, hi1_some] at *; omega))
    refine stg rfl rfl (decide_eq_true rfl) (mvP rfl) ?_
    refine stg rfl rfl (decide_eq_true rfl) (mvI rfl) ?_
    refine stg rfl rfl (decide_eq_true rfl) (mvI rfl) ?_
    refine scg rfl rfl (decide_eq_true rfl) cl30 (rlk_Free_ok _ _ _ _ _ _ _ hY hI1) rfl ?_
    rintro v129 w125 ⟨rfl, hY, ho126⟩
    have hI2 := freeS_ok hI1 t r
    have hz130 := ho126.size
    replace hL0 := hL0.out ho126 (by first | omega | (simp only [blk_some, hi1_some] at *; omega))
    replace hL := hL.out ho126 (by first | omega | (simp only [blk_some, hi1_some] at *; omega))
    replace hE := hE.step ho126 (by first | omega | (simp only [blk_some, hi1_some] at *; omega))
    replace hX := hX.out ho126 (by first | omega | (simp only [blk_some, hi1_some] at *; omega))
    replace hS := hS.out ho126 (by first | omega | (simp only [blk_some, hi1_some] at *; omega))
    refine stg rfl rfl (decide_eq_true rfl) (y_eql rfl rfl) ?_
    refine st (y_pickT rfl (decide_eq_true rfl) (v := .bool _) rfl) ?_
    refine st (mvB rfl) ?_
    refine stg rfl rfl (decide_eq_true rfl) (mvP rfl) ?_
    refine stg rfl rfl (decide_eq_true rfl) (mvI rfl) ?_
    refine stg rfl rfl (decide_eq_true rfl) (mvI rfl) ?_
    refine scg rfl rfl (decide_eq_true rfl) cl24 (ilk_Report_ok _ _ _ _ _ _ _ hX hI2) rfl ?_
    rintro v135 w131 ⟨rfl, hX, ho132⟩
    have hz136 := ho132.size
    replace hL0 := hL0.out ho132 (by first | omega | (simp only [blk_some, hi1_some] at *; omega))
    replace hL := hL.out ho132 (by first | omega | (simp only [blk_some, hi1_some] at *; omega))
    replace hE := hE.step ho132 (by first | omega | (simp only [blk_some, hi1_some] at *; omega))
    replace hY := hY.out ho132 (by first | omega | (simp only [blk_some, hi1_some] at *; omega))
    replace hS := hS.out ho132 (by first | omega | (simp only [blk_some, hi1_some] at *; omega))
    refine stg rfl rfl (decide_eq_true rfl) (mvP rfl) ?_
    refine stg rfl rfl (decide_eq_true rfl) (mvI rfl) ?_
    refine stg rfl rfl (decide_eq_true rfl) (mvI rfl) ?_
    refine scg rfl rfl (decide_eq_true rfl) cl31 (rlk_Report_ok _ _ _ _ _ _ _ hY hI2) rfl ?_
    rintro v141 w137 ⟨rfl, hY, ho138⟩
    have hI3 := repS_ok hI2 r x
    have hz142 := ho138.size
    replace hL0 := hL0.out ho138 (by first | omega | (simp only [blk_some, hi1_some] at *; omega))
    replace hL := hL.out ho138 (by first | omega | (simp only [blk_some, hi1_some] at *; omega))
    replace hE := hE.step ho138 (by first | omega | (simp only [blk_some, hi1_some] at *; omega))
    replace hX := hX.out ho138 (by first | omega | (simp only [blk_some, hi1_some] at *; omega))
    replace hS := hS.out ho138 (by first | omega | (simp only [blk_some, hi1_some] at *; omega))
    refine stg rfl rfl (decide_eq_true rfl) (y_eqlB rfl rfl Try.underlying4) ?_
    refine st (y_pickT rfl (decide_eq_true rfl) (v := .bool _) rfl) ?_
    refine st (mvB rfl) ?_
    refine stg rfl rfl (by simp) (mvP rfl) ?_
    refine stg rfl rfl (by simp) (mvI rfl) ?_
    refine scg rfl rfl (by simp) cl23 (ilk_Close_ok _ _ _ _ _ _ _ hX hI3) rfl ?_
    rintro v147 w143 ⟨rfl, hX, ho144⟩
    have hz148 := ho144.size
    replace hL0 := hL0.out ho144 (by first | omega | (simp only [blk_some, hi1_some] at *; omega))
    replace hL := hL.out ho144 (by first | omega | (simp only [blk_some, hi1_some] at *; omega))
    replace hE := hE.step ho144 (by first | omega | (simp only [blk_some, hi1_some] at *; omega))
    replace hY := hY.out ho144 (by first | omega | (simp only [blk_some, hi1_some] at *; omega))
    replace hS := hS.out ho144 (by first | omega | (simp only [blk_some, hi1_some] at *; omega))
    refine stg rfl rfl (by simp) (mvP rfl) ?_
    refine stg rfl rfl (by simp) (mvI rfl) ?_
    refine scg rfl rfl (by simp) cl32 (rlk_Close_ok _ _ _ _ _ _ _ hY hI3) rfl ?_
    rintro v153 w149 ⟨rfl, hY, ho150⟩
    have hI4 := cloS_ok hI3 r true
    have hz154 := ho150.size
    replace hL0 := hL0.out ho150 (by first | omega | (simp only [blk_some, hi1_some] at *; omega))
    replace hL := hL.out ho150 (by first | omega | (simp only [blk_some, hi1_some] at *; omega))
    replace hE := hE.step ho150 (by first | omega | (simp only [blk_some, hi1_some] at *; omega))
    replace hX := hX.out ho150 (by first | omega | (simp only [blk_some, hi1_some] at *; omega))
    replace hS := hS.out ho150 (by first | omega | (simp only [blk_some, hi1_some] at *; omega))
    refine stg rfl rfl (by simp) (y_eqlB rfl rfl Try.underlying4) ?_
    refine st (y_pickT rfl (by simp) (v := .bool _) rfl) ?_
    refine st (mvB rfl) ?_
    refine stg rfl rfl (by simp) (mvP rfl) ?_
    refine stg rfl rfl (by simp) (mvP rfl) ?_
    refine scg rfl rfl (by simp) cl28 (law32_agrees_ok _ _ _ _ _ _ _ _ hX hY hI4) rfl ?_
    rintro v159 w155 ⟨rfl, ho156⟩
    have hz160 := ho156.size
    replace hL0 := hL0.ext ho156
    replace hL := hL.ext ho156
    replace hE := hE.step ho156 (.inl (Nat.le_refl _))
    replace hX := hX.ext ho156
    replace hY := hY.ext ho156
    replace hS := hS.ext ho156
    refine st (y_pickT rfl (by simp) (v := .bool _) rfl) ?_
    refine st (asB rfl) ?_
    refine rg_end ?_
    refine n_then ?_
    refine wp_ret ?_
    refine ret1 (v := (.bool _)) Try.results8 rfl ?_
    exact ⟨rfl, hE⟩
end Go.Proofs.Ytciljdhihnnfiaa
