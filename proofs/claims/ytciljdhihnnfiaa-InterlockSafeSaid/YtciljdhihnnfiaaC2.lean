/-
  Walks of the functions, printed by a program out of the code and the loops' relations.
-/
import Derived.Test.YtciljdhihnnfiaaWkG
import Derived.Test.YtciljdhihnnfiaaProg
import Derived.KernelRfl
import Derived.Test.YtciljdhihnnfiaaC1
namespace Go.Proofs.Ytciljdhihnnfiaa
open Go.Wk Go.RowKit
set_option linter.unusedVariables false
set_option linter.unusedSimpArgs false
theorem bld62_0_1 (d0 : Option Addr) (l0 : Nat) (c0 : Nat) (d1 : Option Addr) (l1 : Nat) (c1 : Nat) (w : World) : (Instr.build 62 [(0, (.slice d0 l0 c0)), (1, (.slice d1 l1 c1))].toArray).run Try.prog w = .ok (.agg [(.slice d0 l0 c0), (.slice d1 l1 c1)].toArray) w := by kernel_rfl
theorem bld64_0_2 (a0 : Int) (a2 : Int) (w : World) : (Instr.build 64 [(0, (.int .i64 a0)), (2, (.int .i64 a2))].toArray).run Try.prog w = .ok (.agg [(.int .i64 a0), .int .i64 0, (.int .i64 a2), .bool false].toArray) w := by kernel_rfl
theorem bsl22_0  (w : World) : (Instr.buildSlice 22 0 [].toArray).run Try.prog w = .ok (.slice (some ⟨w.heap.size, 0, none⟩) 0 0) (w.alloc (.cells [].toArray 35)) := by kernel_rfl
theorem bsl23_1 (a0 : Int) (w : World) : (Instr.buildSlice 23 1 [(0, (.int .i64 a0))].toArray).run Try.prog w = .ok (.slice (some ⟨w.heap.size, 0, none⟩) 1 1) (w.alloc (.cells [(.int .i64 a0)].toArray 3)) := by kernel_rfl
theorem cl34 : Callable Try.prog 34 := ⟨Try.call34⟩
theorem cl35 : Callable Try.prog 35 := ⟨Try.call35⟩
theorem cl36 : Callable Try.prog 36 := ⟨Try.call36⟩
set_option maxRecDepth 100000 in
theorem info64 : ∃ i, Try.prog.info? 64 = some i ∧ i.zero = some (.agg #[.int .i64 0, .int .i64 0, .int .i64 0, .bool false]) ∧ i.size = 4 ∧ i.bytes = 32 := ⟨Try.t64, Try.type64, rfl, rfl, rfl⟩
set_option maxRecDepth 100000 in
theorem infoz3 : ∃ i, Try.prog.info? 3 = some i ∧ i.zero = some (.int .i64 0) ∧ i.size = 1 ∧ i.bytes = 8 ∧ (Value.cells (.int .i64 0)).size = 1 := ⟨Try.t3, Try.type3, rfl, rfl, rfl, rfl⟩

theorem fill_stepG {α : Type} [Inhabited α] {n k : Nat} {l : List α} {v : α} (hl : l.length = n) (hk : k < n) (h : ∀ p : Nat, p < k → el l p = v) : ∀ p : Nat, p < k + 1 → el (l.set (k : Int).toNat v) p = v := by
  intro p hp
  by_cases e : p = k
  · subst e; exact el_set_same (by omega) (by omega)
  · rw [el_set_ne (by omega) (by omega) (by omega)]; exact h p (by omega)
theorem fill_all {α : Type} [Inhabited α] {n : Nat} {l : List α} {v : α} (hl : l.length = n) (h : ∀ p : Nat, p < n → el l p = v) : l = List.replicate n v := by
  refine ext_el (by simp [hl]) fun i h0 h1 => ?_
  rw [el_rep h0 (by omega)]
  have := h i.toNat (by omega)
  rwa [Int.toNat_of_nonneg h0] at this
theorem free_err {S : IS} {t r : Int} (h : freeE S t r ≠ 0) : freeS S t r = S := by unfold freeS; rw [if_neg h]
theorem free_ok {S : IS} {t r : Int} (h : freeE S t r = 0) : freeS S t r = ⟨S.rs.set r.toNat { el S.rs r with ho := -1 }, S.fl⟩ := by unfold freeS; rw [if_pos h]
theorem newE1 {n : Int} {fl : List Fk} (h : ¬ (1 ≤ n ∧ n ≤ 144)) : newE n fl = 4 := by unfold newE; rw [if_neg h]
theorem newE2 {n : Int} {fl : List Fk} (h : 1 ≤ n ∧ n ≤ 144) (h2 : 144 < (fl.length : Int)) : newE n fl = 7 := by unfold newE; rw [if_pos h, if_pos h2]
theorem newE3 {n : Int} {fl : List Fk} (h : 1 ≤ n ∧ n ≤ 144) (h2 : (fl.length : Int) ≤ 144) : newE n fl = newGo n [] fl := by unfold newE; rw [if_pos h, if_neg (by omega)]
theorem fkE1 {n : Int} {pre : List Fk} {f : Fk} (h : fkBad n f = true) : fkE n pre f = 4 := by unfold fkE; rw [if_pos h]
theorem fkE2 {n : Int} {pre : List Fk} {f : Fk} (h : fkBad n f = false) (h2 : f.rs = f.pt) : fkE n pre f = 1 := by unfold fkE; rw [if_neg (by rw [h]; decide), if_pos h2]
theorem fkE3 {n : Int} {pre : List Fk} {f : Fk} (h : fkBad n f = false) (h2 : ¬ f.rs = f.pt) (h3 : pre.any (sameFk f) = true) : fkE n pre f = 5 := by unfold fkE; rw [if_neg (by rw [h]; decide), if_neg h2, if_pos h3]
theorem fkE4 {n : Int} {pre : List Fk} {f : Fk} (h : fkBad n f = false) (h2 : ¬ f.rs = f.pt) (h3 : pre.any (sameFk f) = false) : fkE n pre f = 0 := by unfold fkE; rw [if_neg (by rw [h]; decide), if_neg h2, if_neg (by rw [h3]; decide)]
theorem any_pre {fl : List Fk} {k j : Nat} {q : Fk → Bool} (hk : (k : Int) < fl.length) (hj : j < k) (h : q (el fl (j : Int)) = true) : (fl.take k).any q = true := by
  refine List.any_eq_true.2 ⟨_, ?_, h⟩
  rw [← el_take (k := k) (by omega) (by omega : (j : Int) < k)]
  exact el_mem (by omega) (by simp; omega)
theorem set_twice {R : List Rs} {i : Int} {x : Rs} {q : Int} (h0 : 0 ≤ i) (h1 : i < R.length) : (R.set i.toNat x).set i.toNat { el (R.set i.toNat x) i with po := q } = R.set i.toNat { x with po := q } := by
  rw [List.set_set, el_set_same h0 h1]

set_option maxRecDepth 100000 in
theorem ilk_Report_ok (S : IS) (lo hi b : Nat) (r x : Int) (w : World) (hX : Ilk lo hi b w S) (hS : IsOk S)  : Cal Try.prog 24 [.pointer (some ⟨b, 0, none⟩), .int .i64 r, .int .i64 x] w (fun v w' => v = .bool (repB S r x) ∧ Ilk lo hi b w' (repS S r x) ∧ Out lo hi w w') := by
  obtain ⟨ar, cr, af, cf, l2, h2, hb, hr, hf, hl2, hh2, hlb, hbh, hhi, hd1, hd2⟩ := hX.ex
  have hbl := hb.lt
  have hrn0 := hr.rng
  have hn1 := hS.n1
  have hn2 := hS.n2
  have hE : Out lo hi w w := Out.refl _ _ w
  refine enter Try.func24 rfl Try.ntmps24 rfl ?_
  refine wp_seq ?_
  refine rg ?_
  refine st (asB rfl) ?_
  refine rg_end ?_
  refine n_then ?_
  refine wp_seq ?_
  refine cut (γ := Unit) [7, 8, 9, 10, 11, 12, 13, 14, 15, 16, 17, 18, 19, 20, 21, 22] (fun _ => [(22, .bool (!repB S r x))]) (fun _ w_ => Ext w w_ ∧ True) ?_ ?_
  ·
    have hcut := Out.refl 0 0 w
    refine rg ?_
    refine st (mvP rfl) ?_
    refine st (mvI rfl) ?_
    refine sc cl35 (ilk_has_ok S _ _ _ _ _ hX hS) rfl ?_
    rintro v5 w1 ⟨rfl, ho2⟩
    have hz6 := ho2.size
    replace hX := hX.ext ho2
    replace hb := hb.ext ho2
    replace hr := hr.ext ho2
    replace hf := hf.ext ho2
    replace hE := hE.step ho2 (.inl (Nat.le_refl _))
    replace hcut := hcut.step ho2 (.inl (Nat.le_refl _))
    refine st (y_not rfl) ?_
    refine st (mvB rfl) ?_
    refine gspL 11 rfl (fun hg7 => ?_) (fun hg7 => ?_)
    ·
      have hg7n := hg7; try simp only [decide_eq_true_eq, decide_eq_false_iff_not, Bool.not_eq_true', Bool.not_eq_false', Bool.and_eq_true, Bool.or_eq_true, Bool.or_eq_false_iff, Bool.cond_true_right, Bool.cond_false_right, Bool.cond_true_left, Bool.cond_false_left, ne_eq, Decidable.not_not, bne_iff_ne, beq_iff_eq, beq_eq_false_iff_ne, Bool.not_true, Bool.not_false] at hg7n
      simp only [isR, decide_eq_true_eq, decide_eq_false_iff_not] at hg7n
      refine sts rfl rfl hg7 ?_
      refine sts rfl rfl hg7 ?_
      refine sts rfl rfl hg7 ?_
      refine stu rfl rfl ?_
      refine stu rfl rfl ?_
      refine sts rfl rfl hg7 ?_
      refine sts rfl rfl hg7 ?_
      refine stu rfl rfl ?_
      refine stu rfl rfl ?_
      refine sts rfl rfl hg7 ?_
      refine st (y_pickT rfl hg7 (v := .bool _) rfl) ?_
      refine rg_end ?_
      exact n_then ⟨(), _, rfl, same_lk rfl (same_rfl), ⟨vb (by simp only [repB, isR, Bool.and_eq_true, Bool.and_eq_false_iff, decide_eq_true_eq, decide_eq_false_iff_not, Bool.not_eq_true', Bool.not_eq_eq_eq_not, Bool.not_true, Bool.false_eq_true, false_iff, true_iff, iff_true, iff_false]; omega), trivial⟩, ⟨hcut, trivial⟩⟩
    ·
      have hg7n := hg7; try simp only [decide_eq_true_eq, decide_eq_false_iff_not, Bool.not_eq_true', Bool.not_eq_false', Bool.and_eq_true, Bool.or_eq_true, Bool.or_eq_false_iff, Bool.cond_true_right, Bool.cond_false_right, Bool.cond_true_left, Bool.cond_false_left, ne_eq, Decidable.not_not, bne_iff_ne, beq_iff_eq, beq_eq_false_iff_ne, Bool.not_true, Bool.not_false] at hg7n
      simp only [isR, decide_eq_true_eq, decide_eq_false_iff_not] at hg7n
      refine stg rfl rfl hg7 (mvI rfl) ?_
      refine stg rfl rfl hg7 (y_neq rfl rfl) ?_
      refine stg rfl rfl hg7 (mvB rfl) ?_
      refine gspL 14 rfl (fun hg8 => ?_) (fun hg8 => ?_)
      ·
        have hg8n := hg8; try simp only [decide_eq_true_eq, decide_eq_false_iff_not, Bool.not_eq_true', Bool.not_eq_false', Bool.and_eq_true, Bool.or_eq_true, Bool.or_eq_false_iff, Bool.cond_true_right, Bool.cond_false_right, Bool.cond_true_left, Bool.cond_false_left, ne_eq, Decidable.not_not, bne_iff_ne, beq_iff_eq, beq_eq_false_iff_ne, Bool.not_true, Bool.not_false] at hg8n
        refine stg rfl rfl hg8 (mvI rfl) ?_
        refine stg rfl rfl hg8 (y_neq rfl rfl) ?_
        refine stg rfl rfl hg7 (y_pickT rfl hg8 (v := .bool _) rfl) ?_
        refine stg rfl rfl hg7 (mvB rfl) ?_
        refine gspL 18 rfl (fun hg9 => ?_) (fun hg9 => ?_)
        ·
          have hg9n := hg9; try simp only [decide_eq_true_eq, decide_eq_false_iff_not, Bool.not_eq_true', Bool.not_eq_false', Bool.and_eq_true, Bool.or_eq_true, Bool.or_eq_false_iff, Bool.cond_true_right, Bool.cond_false_right, Bool.cond_true_left, Bool.cond_false_left, ne_eq, Decidable.not_not, bne_iff_ne, beq_iff_eq, beq_eq_false_iff_ne, Bool.not_true, Bool.not_false] at hg9n
          refine stg rfl rfl hg9 (mvI rfl) ?_
          refine stg rfl rfl hg9 (y_neq rfl rfl) ?_
          refine stg rfl rfl hg7 (y_pickT rfl hg9 (v := .bool _) rfl) ?_
          refine st (y_pickF rfl hg7 (v := .bool _) rfl) ?_
          refine rg_end ?_
          exact n_then ⟨(), _, rfl, same_lk rfl (same_rfl), ⟨vb (by simp only [repB, isR, Bool.and_eq_true, Bool.and_eq_false_iff, decide_eq_true_eq, decide_eq_false_iff_not, Bool.not_eq_true', Bool.not_eq_eq_eq_not, Bool.not_true, Bool.false_eq_true, false_iff, true_iff, iff_true, iff_false]; omega), trivial⟩, ⟨hcut, trivial⟩⟩
        ·
          have hg9n := hg9; try simp only [decide_eq_true_eq, decide_eq_false_iff_not, Bool.not_eq_true', Bool.not_eq_false', Bool.and_eq_true, Bool.or_eq_true, Bool.or_eq_false_iff, Bool.cond_true_right, Bool.cond_false_right, Bool.cond_true_left, Bool.cond_false_left, ne_eq, Decidable.not_not, bne_iff_ne, beq_iff_eq, beq_eq_false_iff_ne, Bool.not_true, Bool.not_false] at hg9n
          refine sts rfl rfl hg9 ?_
          refine sts rfl rfl hg9 ?_
          refine stg rfl rfl hg7 (y_pickF rfl hg9 (v := .bool _) rfl) ?_
          refine st (y_pickF rfl hg7 (v := .bool _) rfl) ?_
          refine rg_end ?_
          exact n_then ⟨(), _, rfl, same_lk rfl (same_rfl), ⟨vb (by simp only [repB, isR, Bool.and_eq_true, Bool.and_eq_false_iff, decide_eq_true_eq, decide_eq_false_iff_not, Bool.not_eq_true', Bool.not_eq_eq_eq_not, Bool.not_true, Bool.false_eq_true, false_iff, true_iff, iff_true, iff_false]; omega), trivial⟩, ⟨hcut, trivial⟩⟩
      ·
        have hg8n := hg8; try simp only [decide_eq_true_eq, decide_eq_false_iff_not, Bool.not_eq_true', Bool.not_eq_false', Bool.and_eq_true, Bool.or_eq_true, Bool.or_eq_false_iff, Bool.cond_true_right, Bool.cond_false_right, Bool.cond_true_left, Bool.cond_false_left, ne_eq, Decidable.not_not, bne_iff_ne, beq_iff_eq, beq_eq_false_iff_ne, Bool.not_true, Bool.not_false] at hg8n
        refine sts rfl rfl hg8 ?_
        refine sts rfl rfl hg8 ?_
        refine stg rfl rfl hg7 (y_pickF rfl hg8 (v := .bool _) rfl) ?_
        refine stg rfl rfl hg7 (mvB rfl) ?_
        refine sts rfl rfl rfl ?_
        refine sts rfl rfl rfl ?_
        refine stg rfl rfl hg7 (y_pickF rfl rfl (v := .bool _) rfl) ?_
        refine st (y_pickF rfl hg7 (v := .bool _) rfl) ?_
        refine rg_end ?_
        exact n_then ⟨(), _, rfl, same_lk rfl (same_rfl), ⟨vb (by simp only [repB, isR, Bool.and_eq_true, Bool.and_eq_false_iff, decide_eq_true_eq, decide_eq_false_iff_not, Bool.not_eq_true', Bool.not_eq_eq_eq_not, Bool.not_true, Bool.false_eq_true, false_iff, true_iff, iff_true, iff_false]; omega), trivial⟩, ⟨hcut, trivial⟩⟩
  ·
    rintro _ hav_ w10 ⟨ho11, _⟩
    have hz12 := ho11.size
    replace hX := hX.ext ho11
    replace hb := hb.ext ho11
    replace hr := hr.ext ho11
    replace hf := hf.ext ho11
    replace hE := hE.step ho11 (.inl (Nat.le_refl _))
    refine cnd rfl (fun hc0 => ?_) (fun hc0 => ?_)
    ·
      try simp only [decide_eq_true_eq, decide_eq_false_iff_not, Bool.not_eq_true', Bool.not_eq_false', Bool.and_eq_true, Bool.or_eq_true, Bool.or_eq_false_iff, Bool.cond_true_right, Bool.cond_false_right, Bool.cond_true_left, Bool.cond_false_left, ne_eq, Decidable.not_not, bne_iff_ne, beq_iff_eq, beq_eq_false_iff_ne, Bool.not_true, Bool.not_false] at hc0
      have hs : repS S r x = S := by unfold repS; rw [if_neg (by rw [hc0]; decide)]
      refine wp_seq ?_
      refine rg ?_
      refine st (asB rfl) ?_
      refine rg_end ?_
      refine n_then ?_
      refine wp_ret ?_
      refine r_then (ret1 (v := (.bool _)) Try.results24 rfl ?_)
      exact ⟨by rw [hc0], by rw [hs]; exact hX, hE⟩
    ·
      try simp only [decide_eq_true_eq, decide_eq_false_iff_not, Bool.not_eq_true', Bool.not_eq_false', Bool.and_eq_true, Bool.or_eq_true, Bool.or_eq_false_iff, Bool.cond_true_right, Bool.cond_false_right, Bool.cond_true_left, Bool.cond_false_left, ne_eq, Decidable.not_not, bne_iff_ne, beq_iff_eq, beq_eq_false_iff_ne, Bool.not_true, Bool.not_false] at hc0
      have hs : repS S r x = ⟨S.rs.set r.toNat { el S.rs r with re := x }, S.fl⟩ := by unfold repS; rw [if_pos hc0]
      have hr0 := isR_iff.1 (show isR S r = true by simp only [repB, Bool.and_eq_true] at hc0; exact hc0.1)
      refine wp_skip ?_
      refine n_then ?_
      refine wp_seq ?_
      refine rg ?_
      refine st (mvP rfl) ?_
      refine st (y_nil rfl) ?_
      refine st (y_fld fld62_0 rfl) ?_
      refine st (y_lb hb na59 rfl rfl) ?_
      refine st (mvI rfl) ?_
      refine st (mvI rfl) ?_
      refine st (y_ix hr.sl sl59 rfl (rfl) rfl (by omega) (by omega)) ?_
      refine st (y_fld fld64_2 rfl) ?_
      refine sd0 (d_se (j := 2) (e' := { el S.rs r with re := x }) hr sz3 rfl rfl rfl (by omega) (by omega) (Nat.le_of_ble_eq_true rfl) rfl ?_)
      intro w13 hs15 ho14 hr'
      have hrhr := hr.rng
      clear hr; have hr := hr'; clear hr'
      have hz16 := ho14.size
      replace hb := hb.out ho14 (by first | omega | (simp only [blk_some, hi1_some] at *; omega))
      replace hf := hf.out ho14 (by first | omega | (simp only [blk_some, hi1_some] at *; omega))
      replace hE := hE.step ho14 (by first | omega | (simp only [blk_some, hi1_some] at *; omega))
      refine rg_end ?_
      refine n_then ?_
      refine wp_seq ?_
      refine rg ?_
      refine st (asB rfl) ?_
      refine rg_end ?_
      refine n_then ?_
      refine wp_ret ?_
      refine ret1 (v := (.bool _)) Try.results24 rfl ?_
      exact ⟨by rw [hc0], by rw [hs]; exact ⟨ar, cr, af, cf, l2, h2, by simpa using hb, hr, hf, hl2, hh2, hlb, hbh, by omega, hd1, hd2⟩, hE⟩

set_option maxRecDepth 100000 in
theorem ilk_Close_ok (S : IS) (lo hi b : Nat) (r : Int) (x : Bool) (w : World) (hX : Ilk lo hi b w S) (hS : IsOk S)  : Cal Try.prog 23 [.pointer (some ⟨b, 0, none⟩), .int .i64 r, .bool x] w (fun v w' => v = .bool (isR S r) ∧ Ilk lo hi b w' (cloS S r x) ∧ Out lo hi w w') := by
  obtain ⟨ar, cr, af, cf, l2, h2, hb, hr, hf, hl2, hh2, hlb, hbh, hhi, hd1, hd2⟩ := hX.ex
  have hbl := hb.lt
  have hrn0 := hr.rng
  have hn1 := hS.n1
  have hn2 := hS.n2
  have hE : Out lo hi w w := Out.refl _ _ w
  refine enter Try.func23 rfl Try.ntmps23 rfl ?_
  refine wp_seq ?_
  refine rg ?_
  refine st (asB rfl) ?_
  refine rg_end ?_
  refine n_then ?_
  refine wp_seq ?_
  refine wp_seq ?_
  refine rg ?_
  refine st (mvP rfl) ?_
  refine st (mvI rfl) ?_
  refine sc cl35 (ilk_has_ok S _ _ _ _ _ hX hS) rfl ?_
  rintro v5 w1 ⟨rfl, ho2⟩
  have hz6 := ho2.size
  replace hX := hX.ext ho2
  replace hb := hb.ext ho2
  replace hr := hr.ext ho2
  replace hf := hf.ext ho2
  replace hE := hE.step ho2 (.inl (Nat.le_refl _))
  refine st (y_not rfl) ?_
  refine rg_end ?_
  refine n_then ?_
  refine cnd rfl (fun hc0 => ?_) (fun hc0 => ?_)
  ·
    try simp only [decide_eq_true_eq, decide_eq_false_iff_not, Bool.not_eq_true', Bool.not_eq_false', Bool.and_eq_true, Bool.or_eq_true, Bool.or_eq_false_iff, Bool.cond_true_right, Bool.cond_false_right, Bool.cond_true_left, Bool.cond_false_left, ne_eq, Decidable.not_not, bne_iff_ne, beq_iff_eq, beq_eq_false_iff_ne, Bool.not_true, Bool.not_false] at hc0
    have hs : cloS S r x = S := by unfold cloS; rw [if_neg (by rw [hc0]; decide)]
    refine wp_seq ?_
    refine rg ?_
    refine st (asB rfl) ?_
    refine rg_end ?_
    refine n_then ?_
    refine wp_ret ?_
    refine r_then (ret1 (v := (.bool _)) Try.results23 rfl ?_)
    exact ⟨by rw [hc0], by rw [hs]; exact hX, hE⟩
  ·
    try simp only [decide_eq_true_eq, decide_eq_false_iff_not, Bool.not_eq_true', Bool.not_eq_false', Bool.and_eq_true, Bool.or_eq_true, Bool.or_eq_false_iff, Bool.cond_true_right, Bool.cond_false_right, Bool.cond_true_left, Bool.cond_false_left, ne_eq, Decidable.not_not, bne_iff_ne, beq_iff_eq, beq_eq_false_iff_ne, Bool.not_true, Bool.not_false] at hc0
    have hs : cloS S r x = ⟨S.rs.set r.toNat { el S.rs r with cl := x }, S.fl⟩ := by unfold cloS; rw [if_pos hc0]
    have hr0 := isR_iff.1 hc0
    refine wp_skip ?_
    refine n_then ?_
    refine wp_seq ?_
    refine rg ?_
    refine st (mvP rfl) ?_
    refine st (y_nil rfl) ?_
    refine st (y_fld fld62_0 rfl) ?_
    refine st (y_lb hb na59 rfl rfl) ?_
    refine st (mvI rfl) ?_
    refine st (mvB rfl) ?_
    refine st (y_ix hr.sl sl59 rfl (rfl) rfl (by omega) (by omega)) ?_
    refine st (y_fld fld64_3 rfl) ?_
    refine sd0 (d_se (j := 3) (e' := { el S.rs r with cl := x }) hr sz4 rfl rfl rfl (by omega) (by omega) (Nat.le_of_ble_eq_true rfl) rfl ?_)
    intro w7 hs9 ho8 hr'
    have hrhr := hr.rng
    clear hr; have hr := hr'; clear hr'
    have hz10 := ho8.size
    replace hb := hb.out ho8 (by first | omega | (simp only [blk_some, hi1_some] at *; omega))
    replace hf := hf.out ho8 (by first | omega | (simp only [blk_some, hi1_some] at *; omega))
    replace hE := hE.step ho8 (by first | omega | (simp only [blk_some, hi1_some] at *; omega))
    refine rg_end ?_
    refine n_then ?_
    refine wp_seq ?_
    refine rg ?_
    refine st (asB rfl) ?_
    refine rg_end ?_
    refine n_then ?_
    refine wp_ret ?_
    refine ret1 (v := (.bool _)) Try.results23 rfl ?_
    exact ⟨by rw [hc0], by rw [hs]; exact ⟨ar, cr, af, cf, l2, h2, by simpa using hb, hr, hf, hl2, hh2, hlb, hbh, by omega, hd1, hd2⟩, hE⟩

set_option maxRecDepth 100000 in
theorem ilk_Free_ok (S : IS) (lo hi b : Nat) (t r : Int) (w : World) (hX : Ilk lo hi b w S) (hS : IsOk S)  : Cal Try.prog 25 [.pointer (some ⟨b, 0, none⟩), .int .i64 t, .int .i64 r] w (fun v w' => v = .int .i64 (freeE S t r) ∧ Ilk lo hi b w' (freeS S t r) ∧ Out lo hi w w') := by
  obtain ⟨ar, cr, af, cf, l2, h2, hb, hr, hf, hl2, hh2, hlb, hbh, hhi, hd1, hd2⟩ := hX.ex
  have hbl := hb.lt
  have hrn0 := hr.rng
  have hn1 := hS.n1
  have hn2 := hS.n2
  have hE : Out lo hi w w := Out.refl _ _ w
  refine enter Try.func25 rfl Try.ntmps25 rfl ?_
  refine wp_seq ?_
  refine rg ?_
  refine st (asI rfl) ?_
  refine rg_end ?_
  refine n_then ?_
  refine wp_seq ?_
  refine cut (γ := Unit) [8, 9, 10, 11, 12, 13, 14, 15, 16] (fun _ => [(16, .bool (decide (¬ (okT t = true ∧ isR S r = true))))]) (fun _ w_ => Ext w w_ ∧ True) ?_ ?_
  ·
    have hcut := Out.refl 0 0 w
    refine rg ?_
    refine st (mvI rfl) ?_
    refine sc cl36 (interlock_isTrain_ok _ _) rfl ?_
    rintro v5 w1 ⟨rfl, ho2⟩
    have hz6 := ho2.size
    replace hX := hX.ext ho2
    replace hb := hb.ext ho2
    replace hr := hr.ext ho2
    replace hf := hf.ext ho2
    replace hE := hE.step ho2 (.inl (Nat.le_refl _))
    replace hcut := hcut.step ho2 (.inl (Nat.le_refl _))
    refine st (y_not rfl) ?_
    refine st (mvB rfl) ?_
    refine gspL 11 rfl (fun hg7 => ?_) (fun hg7 => ?_)
    ·
      have hg7n := hg7; try simp only [decide_eq_true_eq, decide_eq_false_iff_not, Bool.not_eq_true', Bool.not_eq_false', Bool.and_eq_true, Bool.or_eq_true, Bool.or_eq_false_iff, Bool.cond_true_right, Bool.cond_false_right, Bool.cond_true_left, Bool.cond_false_left, ne_eq, Decidable.not_not, bne_iff_ne, beq_iff_eq, beq_eq_false_iff_ne, Bool.not_true, Bool.not_false] at hg7n
      refine sts rfl rfl hg7 ?_
      refine sts rfl rfl hg7 ?_
      refine sts rfl rfl hg7 ?_
      refine sts rfl rfl hg7 ?_
      refine st (y_pickT rfl hg7 (v := .bool _) rfl) ?_
      refine rg_end ?_
      exact n_then ⟨(), _, rfl, same_lk rfl (same_rfl), ⟨vb (by simp_all), trivial⟩, ⟨hcut, trivial⟩⟩
    ·
      have hg7n := hg7; try simp only [decide_eq_true_eq, decide_eq_false_iff_not, Bool.not_eq_true', Bool.not_eq_false', Bool.and_eq_true, Bool.or_eq_true, Bool.or_eq_false_iff, Bool.cond_true_right, Bool.cond_false_right, Bool.cond_true_left, Bool.cond_false_left, ne_eq, Decidable.not_not, bne_iff_ne, beq_iff_eq, beq_eq_false_iff_ne, Bool.not_true, Bool.not_false] at hg7n
      refine stg rfl rfl hg7 (mvP rfl) ?_
      refine stg rfl rfl hg7 (mvI rfl) ?_
      refine scg rfl rfl hg7 cl35 (ilk_has_ok S _ _ _ _ _ hX hS) rfl ?_
      rintro v12 w8 ⟨rfl, ho9⟩
      have hz13 := ho9.size
      replace hX := hX.ext ho9
      replace hb := hb.ext ho9
      replace hr := hr.ext ho9
      replace hf := hf.ext ho9
      replace hE := hE.step ho9 (.inl (Nat.le_refl _))
      replace hcut := hcut.step ho9 (.inl (Nat.le_refl _))
      refine stg rfl rfl hg7 (y_not rfl) ?_
      refine st (y_pickF rfl hg7 (v := .bool _) rfl) ?_
      refine rg_end ?_
      exact n_then ⟨(), _, rfl, same_lk rfl (same_rfl), ⟨vb (by simp_all), trivial⟩, ⟨hcut, trivial⟩⟩
  ·
    rintro _ hav_ w14 ⟨ho15, _⟩
    have hz16 := ho15.size
    replace hX := hX.ext ho15
    replace hb := hb.ext ho15
    replace hr := hr.ext ho15
    replace hf := hf.ext ho15
    replace hE := hE.step ho15 (.inl (Nat.le_refl _))
    refine cnd rfl (fun hc0 => ?_) (fun hc0 => ?_)
    ·
      try simp only [decide_eq_true_eq, decide_eq_false_iff_not, Bool.not_eq_true', Bool.not_eq_false', Bool.and_eq_true, Bool.or_eq_true, Bool.or_eq_false_iff, Bool.cond_true_right, Bool.cond_false_right, Bool.cond_true_left, Bool.cond_false_left, ne_eq, Decidable.not_not, bne_iff_ne, beq_iff_eq, beq_eq_false_iff_ne, Bool.not_true, Bool.not_false] at hc0
      have he : freeE S t r = 4 := by unfold freeE; rw [if_neg hc0]
      refine wp_seq ?_
      refine rg ?_
      refine st (asI rfl) ?_
      refine rg_end ?_
      refine n_then ?_
      refine wp_ret ?_
      refine r_then (ret1 (v := (.int .i64 _)) Try.results25 rfl ?_)
      exact ⟨vi he.symm, by rw [free_err (by rw [he]; decide)]; exact hX, hE⟩
    ·
      try simp only [decide_eq_true_eq, decide_eq_false_iff_not, Bool.not_eq_true', Bool.not_eq_false', Bool.and_eq_true, Bool.or_eq_true, Bool.or_eq_false_iff, Bool.cond_true_right, Bool.cond_false_right, Bool.cond_true_left, Bool.cond_false_left, ne_eq, Decidable.not_not, bne_iff_ne, beq_iff_eq, beq_eq_false_iff_ne, Bool.not_true, Bool.not_false] at hc0
      have hr0 := isR_iff.1 hc0.2
      refine wp_skip ?_
      refine n_then ?_
      refine wp_seq ?_
      refine wp_seq ?_
      refine rg ?_
      refine st (mvP rfl) ?_
      refine st (y_nil rfl) ?_
      refine st (y_fld fld62_0 rfl) ?_
      refine st (y_lb hb na59 rfl rfl) ?_
      refine st (mvI rfl) ?_
      refine st (y_ix hr.sl sl59 rfl (rfl) rfl (by omega) (by omega)) ?_
      refine st (asP rfl) ?_
      refine rg_end ?_
      refine n_then ?_
      refine wp_block ?_
      refine wp_seq ?_
      refine rg ?_
      refine st (mvP rfl) ?_
      refine st (y_nil rfl) ?_
      refine st (y_fld fld64_0 rfl) ?_
      refine st (y_lf hr.sl na3 rfl (by omega) (by omega) rfl) ?_
      refine st (mvI rfl) ?_
      refine st (y_neq rfl rfl) ?_
      refine st (asB rfl) ?_
      refine rg_end ?_
      refine n_then ?_
      refine cnd rfl (fun hc1 => ?_) (fun hc1 => ?_)
      ·
        try simp only [decide_eq_true_eq, decide_eq_false_iff_not, Bool.not_eq_true', Bool.not_eq_false', Bool.and_eq_true, Bool.or_eq_true, Bool.or_eq_false_iff, Bool.cond_true_right, Bool.cond_false_right, Bool.cond_true_left, Bool.cond_false_left, ne_eq, Decidable.not_not, bne_iff_ne, beq_iff_eq, beq_eq_false_iff_ne, Bool.not_true, Bool.not_false] at hc1
        have he : freeE S t r = 17 := by unfold freeE; rw [if_pos hc0, if_pos hc1]
        refine wp_seq ?_
        refine rg ?_
        refine st (asI rfl) ?_
        refine rg_end ?_
        refine n_then ?_
        refine wp_ret ?_
        refine r_blk (r_then (ret1 (v := (.int .i64 _)) Try.results25 rfl ?_))
        exact ⟨vi he.symm, by rw [free_err (by rw [he]; decide)]; exact hX, hE⟩
      ·
        try simp only [decide_eq_true_eq, decide_eq_false_iff_not, Bool.not_eq_true', Bool.not_eq_false', Bool.and_eq_true, Bool.or_eq_true, Bool.or_eq_false_iff, Bool.cond_true_right, Bool.cond_false_right, Bool.cond_true_left, Bool.cond_false_left, ne_eq, Decidable.not_not, bne_iff_ne, beq_iff_eq, beq_eq_false_iff_ne, Bool.not_true, Bool.not_false] at hc1
        refine wp_seq ?_
        refine rg ?_
        refine st (mvP rfl) ?_
        refine st (y_nil rfl) ?_
        refine st (y_fld fld64_2 rfl) ?_
        refine st (y_lf hr.sl na3 rfl (by omega) (by omega) rfl) ?_
        refine st (y_neq rfl rfl) ?_
        refine st (asB rfl) ?_
        refine rg_end ?_
        refine n_then ?_
        refine cnd rfl (fun hc2 => ?_) (fun hc2 => ?_)
        ·
          try simp only [decide_eq_true_eq, decide_eq_false_iff_not, Bool.not_eq_true', Bool.not_eq_false', Bool.and_eq_true, Bool.or_eq_true, Bool.or_eq_false_iff, Bool.cond_true_right, Bool.cond_false_right, Bool.cond_true_left, Bool.cond_false_left, ne_eq, Decidable.not_not, bne_iff_ne, beq_iff_eq, beq_eq_false_iff_ne, Bool.not_true, Bool.not_false] at hc2
          have he : freeE S t r = 16 := by unfold freeE; rw [if_pos hc0, if_neg (not_not_intro hc1), if_pos hc2]
          refine wp_seq ?_
          refine rg ?_
          refine st (asI rfl) ?_
          refine rg_end ?_
          refine n_then ?_
          refine wp_ret ?_
          refine r_blk (r_then (ret1 (v := (.int .i64 _)) Try.results25 rfl ?_))
          exact ⟨vi he.symm, by rw [free_err (by rw [he]; decide)]; exact hX, hE⟩
        ·
          try simp only [decide_eq_true_eq, decide_eq_false_iff_not, Bool.not_eq_true', Bool.not_eq_false', Bool.and_eq_true, Bool.or_eq_true, Bool.or_eq_false_iff, Bool.cond_true_right, Bool.cond_false_right, Bool.cond_true_left, Bool.cond_false_left, ne_eq, Decidable.not_not, bne_iff_ne, beq_iff_eq, beq_eq_false_iff_ne, Bool.not_true, Bool.not_false] at hc2
          have he : freeE S t r = 0 := by unfold freeE; rw [if_pos hc0, if_neg (not_not_intro hc1), if_neg (not_not_intro hc2)]
          refine rg ?_
          refine st (mvP rfl) ?_
          refine st (y_nil rfl) ?_
          refine st (y_fld fld64_0 rfl) ?_
          refine sd0 (d_se (j := 0) (e' := { el S.rs r with ho := -1 }) hr sz3 rfl rfl rfl (by omega) (by omega) (Nat.le_of_ble_eq_true rfl) rfl ?_)
          intro w17 hs19 ho18 hr'
          have hrhr := hr.rng
          clear hr; have hr := hr'; clear hr'
          have hz20 := ho18.size
          replace hb := hb.out ho18 (by first | omega | (simp only [blk_some, hi1_some] at *; omega))
          replace hf := hf.out ho18 (by first | omega | (simp only [blk_some, hi1_some] at *; omega))
          replace hE := hE.step ho18 (by first | omega | (simp only [blk_some, hi1_some] at *; omega))
          refine rg_end ?_
          refine n_blk ?_
          refine n_then ?_
          refine wp_seq ?_
          refine rg ?_
          refine st (asI rfl) ?_
          refine rg_end ?_
          refine n_then ?_
          refine wp_ret ?_
          refine ret1 (v := (.int .i64 _)) Try.results25 rfl ?_
          exact ⟨vi he.symm, by rw [free_ok he]; exact ⟨ar, cr, af, cf, l2, h2, by simpa using hb, hr, hf, hl2, hh2, hlb, hbh, by omega, hd1, hd2⟩, hE⟩

set_option maxRecDepth 100000 in
theorem ilk_Holder_ok (S : IS) (lo hi b : Nat) (r : Int) (w : World) (hX : Ilk lo hi b w S) (hS : IsOk S)  : Cal Try.prog 18 [.pointer (some ⟨b, 0, none⟩), .int .i64 r] w (fun v w' => v = .int .i64 (holder S r) ∧ Ext w w') := by
  obtain ⟨ar, cr, af, cf, l2, h2, hb, hr, hf, hl2, hh2, hlb, hbh, hhi, hd1, hd2⟩ := hX.ex
  have hbl := hb.lt
  have hrn0 := hr.rng
  have hn1 := hS.n1
  have hn2 := hS.n2
  have hE : Out 0 0 w w := Out.refl _ _ w
  refine enter Try.func18 rfl Try.ntmps18 rfl ?_
  refine wp_seq ?_
  refine rg ?_
  refine st (asI rfl) ?_
  refine rg_end ?_
  refine n_then ?_
  refine wp_seq ?_
  refine wp_seq ?_
  refine rg ?_
  refine st (mvP rfl) ?_
  refine st (mvI rfl) ?_
  refine sc cl35 (ilk_has_ok S _ _ _ _ _ hX hS) rfl ?_
  rintro v5 w1 ⟨rfl, ho2⟩
  have hz6 := ho2.size
  replace hX := hX.ext ho2
  replace hb := hb.ext ho2
  replace hr := hr.ext ho2
  replace hf := hf.ext ho2
  replace hE := hE.step ho2 (.inl (Nat.le_refl _))
  refine st (y_not rfl) ?_
  refine rg_end ?_
  refine n_then ?_
  refine cnd rfl (fun hc0 => ?_) (fun hc0 => ?_)
  ·
    try simp only [decide_eq_true_eq, decide_eq_false_iff_not, Bool.not_eq_true', Bool.not_eq_false', Bool.and_eq_true, Bool.or_eq_true, Bool.or_eq_false_iff, Bool.cond_true_right, Bool.cond_false_right, Bool.cond_true_left, Bool.cond_false_left, ne_eq, Decidable.not_not, bne_iff_ne, beq_iff_eq, beq_eq_false_iff_ne, Bool.not_true, Bool.not_false] at hc0
    refine wp_seq ?_
    refine rg ?_
    refine st (asI rfl) ?_
    refine rg_end ?_
    refine n_then ?_
    refine wp_ret ?_
    refine r_then (ret1 (v := (.int .i64 _)) Try.results18 rfl ?_)
    exact ⟨vi (by unfold holder; rw [if_neg (by rw [hc0]; decide)]), hE⟩
  ·
    try simp only [decide_eq_true_eq, decide_eq_false_iff_not, Bool.not_eq_true', Bool.not_eq_false', Bool.and_eq_true, Bool.or_eq_true, Bool.or_eq_false_iff, Bool.cond_true_right, Bool.cond_false_right, Bool.cond_true_left, Bool.cond_false_left, ne_eq, Decidable.not_not, bne_iff_ne, beq_iff_eq, beq_eq_false_iff_ne, Bool.not_true, Bool.not_false] at hc0
    have hr0 := isR_iff.1 hc0
    refine wp_skip ?_
    refine n_then ?_
    refine wp_seq ?_
    refine rg ?_
    refine st (mvP rfl) ?_
    refine st (y_nil rfl) ?_
    refine st (y_fld fld62_0 rfl) ?_
    refine st (y_lb hb na59 rfl rfl) ?_
    refine st (mvI rfl) ?_
    refine st (y_ix hr.sl sl59 rfl (rfl) rfl (by omega) (by omega)) ?_
    refine st (y_fld fld64_0 rfl) ?_
    refine st (y_lf hr.sl na3 rfl (by omega) (by omega) rfl) ?_
    refine st (asI rfl) ?_
    refine rg_end ?_
    refine n_then ?_
    refine wp_ret ?_
    refine ret1 (v := (.int .i64 _)) Try.results18 rfl ?_
    exact ⟨vi (by unfold holder; rw [if_pos hc0]), hE⟩

set_option maxRecDepth 100000 in
theorem ilk_Position_ok (S : IS) (lo hi b : Nat) (r : Int) (w : World) (hX : Ilk lo hi b w S) (hS : IsOk S)  : Cal Try.prog 17 [.pointer (some ⟨b, 0, none⟩), .int .i64 r] w (fun v w' => v = .int .i64 (position S r) ∧ Ext w w') := by
  obtain ⟨ar, cr, af, cf, l2, h2, hb, hr, hf, hl2, hh2, hlb, hbh, hhi, hd1, hd2⟩ := hX.ex
  have hbl := hb.lt
  have hrn0 := hr.rng
  have hn1 := hS.n1
  have hn2 := hS.n2
  have hE : Out 0 0 w w := Out.refl _ _ w
  refine enter Try.func17 rfl Try.ntmps17 rfl ?_
  refine wp_seq ?_
  refine rg ?_
  refine st (asI rfl) ?_
  refine rg_end ?_
  refine n_then ?_
  refine wp_seq ?_
  refine wp_seq ?_
  refine rg ?_
  refine st (mvP rfl) ?_
  refine st (mvI rfl) ?_
  refine sc cl35 (ilk_has_ok S _ _ _ _ _ hX hS) rfl ?_
  rintro v5 w1 ⟨rfl, ho2⟩
  have hz6 := ho2.size
  replace hX := hX.ext ho2
  replace hb := hb.ext ho2
  replace hr := hr.ext ho2
  replace hf := hf.ext ho2
  replace hE := hE.step ho2 (.inl (Nat.le_refl _))
  refine st (y_not rfl) ?_
  refine rg_end ?_
  refine n_then ?_
  refine cnd rfl (fun hc0 => ?_) (fun hc0 => ?_)
  ·
    try simp only [decide_eq_true_eq, decide_eq_false_iff_not, Bool.not_eq_true', Bool.not_eq_false', Bool.and_eq_true, Bool.or_eq_true, Bool.or_eq_false_iff, Bool.cond_true_right, Bool.cond_false_right, Bool.cond_true_left, Bool.cond_false_left, ne_eq, Decidable.not_not, bne_iff_ne, beq_iff_eq, beq_eq_false_iff_ne, Bool.not_true, Bool.not_false] at hc0
    refine wp_seq ?_
    refine rg ?_
    refine st (asI rfl) ?_
    refine rg_end ?_
    refine n_then ?_
    refine wp_ret ?_
    refine r_then (ret1 (v := (.int .i64 _)) Try.results17 rfl ?_)
    exact ⟨vi (by unfold position; rw [if_neg (by rw [hc0]; decide)]), hE⟩
  ·
    try simp only [decide_eq_true_eq, decide_eq_false_iff_not, Bool.not_eq_true', Bool.not_eq_false', Bool.and_eq_true, Bool.or_eq_true, Bool.or_eq_false_iff, Bool.cond_true_right, Bool.cond_false_right, Bool.cond_true_left, Bool.cond_false_left, ne_eq, Decidable.not_not, bne_iff_ne, beq_iff_eq, beq_eq_false_iff_ne, Bool.not_true, Bool.not_false] at hc0
    have hr0 := isR_iff.1 hc0
    refine wp_skip ?_
    refine n_then ?_
    refine wp_seq ?_
    refine rg ?_
    refine st (mvP rfl) ?_
    refine st (y_nil rfl) ?_
    refine st (y_fld fld62_0 rfl) ?_
    refine st (y_lb hb na59 rfl rfl) ?_
    refine st (mvI rfl) ?_
    refine st (y_ix hr.sl sl59 rfl (rfl) rfl (by omega) (by omega)) ?_
    refine st (y_fld fld64_1 rfl) ?_
    refine st (y_lf hr.sl na3 rfl (by omega) (by omega) rfl) ?_
    refine st (asI rfl) ?_
    refine rg_end ?_
    refine n_then ?_
    refine wp_ret ?_
    refine ret1 (v := (.int .i64 _)) Try.results17 rfl ?_
    exact ⟨vi (by unfold position; rw [if_pos hc0]), hE⟩

set_option maxRecDepth 100000 in
theorem ilk_Held_ok (S : IS) (lo hi b : Nat) (t : Int) (w : World) (hX : Ilk lo hi b w S) (hS : IsOk S)  : Cal Try.prog 27 [.pointer (some ⟨b, 0, none⟩), .int .i64 t] w (fun v w' => ∃ am cm, v = .slice am (heldBy S t S.rs.length).length cm ∧ Ints w.heap.size w'.heap.size w' am (heldBy S t S.rs.length) ∧ Ext w w') := by
  obtain ⟨ar, cr, af, cf, l2, h2, hb, hr, hf, hl2, hh2, hlb, hbh, hhi, hd1, hd2⟩ := hX.ex
  have hbl := hb.lt
  have hrn0 := hr.rng
  have hn1 := hS.n1
  have hn2 := hS.n2
  have hE : Out 0 0 w w := Out.refl _ _ w
  refine enter Try.func27 rfl Try.ntmps27 rfl ?_
  refine wp_seq ?_
  refine rg ?_
  refine st (asS rfl) ?_
  refine rg_end ?_
  refine n_then ?_
  refine wp_seq ?_
  refine rg ?_
  refine st (asS rfl) ?_
  refine rg_end ?_
  refine n_then ?_
  refine wp_seq ?_
  refine wp_seq ?_
  refine rg ?_
  refine st (mvP rfl) ?_
  refine st (y_nil rfl) ?_
  refine st (y_fld fld62_0 rfl) ?_
  refine st (y_lb hb na59 rfl rfl) ?_
  refine st (y_len Try.underlying59 rfl) ?_
  refine st (mvI rfl) ?_
  refine rg_end ?_
  refine n_then ?_
  refine wp_block ?_
  obtain ⟨z2, hz2⟩ : ∃ z, z = w.heap.size := ⟨_, rfl⟩
  refine lp (γ := Nat × List Int × Option Addr × Nat) [5, 6, 7, 13, 14, 15, 16, 17, 18, 19, 20, 21, 22, 23, 24, 25, 26, 27, 28, 29, 30] (fun ⟨k, M, am, cm⟩ => [(13, .int .i64 (k : Int)), (5, .slice am M.length cm)]) (fun ⟨k, M, am, cm⟩ w_ => Ext w w_ ∧ (k : Int) ≤ S.rs.length ∧ M = heldBy S t k ∧ Ow 3 encI 1 z2 w_.heap.size w_ am cm M) (fun ⟨k, M, am, cm⟩ => S.rs.length - k) (0, [], none, 0) ⟨rfl, rfl, trivial⟩ ⟨Out.refl _ _ _, by simp, by simp [heldBy], Ow.nil (fun _ => rfl)⟩ ?_
  rintro ⟨k, M, am, cm⟩ hav_ w1 ⟨ho2, hk, hM, hmv⟩
  have hlp0 := ho2
  have hz3 := ho2.size
  replace hX := hX.ext ho2
  replace hb := hb.ext ho2
  replace hr := hr.ext ho2
  replace hf := hf.ext ho2
  replace hE := hE.step ho2 (.inl (Nat.le_refl _))
  refine wp_seq ?_
  refine rg ?_
  refine st (y_lss rfl rfl) ?_
  refine rg_end ?_
  refine n_then ?_
  refine wp_seq ?_
  refine cnd rfl (fun hc0 => ?_) (fun hc0 => ?_)
  ·
    try simp only [decide_eq_true_eq, decide_eq_false_iff_not, Bool.not_eq_true', Bool.not_eq_false', Bool.and_eq_true, Bool.or_eq_true, Bool.or_eq_false_iff, Bool.cond_true_right, Bool.cond_false_right, Bool.cond_true_left, Bool.cond_false_left, ne_eq, Decidable.not_not, bne_iff_ne, beq_iff_eq, beq_eq_false_iff_ne, Bool.not_true, Bool.not_false] at hc0
    have hml := held_len (S := S) (t := t) (k := k)
    rw [← hM] at hml
    refine wp_skip ?_
    refine n_then ?_
    refine wp_seq ?_
    refine wp_block ?_
    refine wp_seq ?_
    refine rg ?_
    refine st (mvI rfl) ?_
    refine st (y_ix hr.sl sl59 rfl (rfl) rfl (by omega) (by omega)) ?_
    refine st (y_lw hr.sl agg64 rfl (by omega) (by omega)) ?_
    refine sd (d_allocA zer64 ?_)
    intro bl7 w4 hbbl7 hs6 ho5 hbl7
    have hz8 := ho5.size
    replace hX := hX.ext ho5
    replace hb := hb.ext ho5
    replace hr := hr.ext ho5
    replace hf := hf.ext ho5
    replace hE := hE.step ho5 (.inl (Nat.le_refl _))
    replace hmv := hmv.ext ho5
    replace hlp0 := hlp0.step ho5 (.inl (Nat.le_refl _))
    refine st (asI rfl) ?_
    refine sd0 (d_stN hbl7 rfl rfl sz64 rfl rfl ?_)
    intro w9 hs11 ho10 hbl7'
    clear hbl7; have hbl7 := hbl7'; clear hbl7'
    have hz12 := ho10.size
    replace hX := hX.out ho10 (by first | omega | (simp only [blk_some, hi1_some] at *; omega))
    replace hb := hb.out ho10 (by first | omega | (simp only [blk_some, hi1_some] at *; omega))
    have hrnhr := hr.rng
    replace hr := hr.out ho10 (by first | omega | (simp only [blk_some, hi1_some] at *; omega))
    replace hf := hf.out ho10 (by first | omega | (simp only [blk_some, hi1_some] at *; omega))
    replace hE := hE.step ho10 (by first | omega | (simp only [blk_some, hi1_some] at *; omega))
    have hrnhmv := hmv.rng
    replace hmv := hmv.out ho10 (by first | omega | (simp only [blk_some, hi1_some] at *; omega))
    replace hlp0 := hlp0.step ho10 (by first | omega | (simp only [blk_some, hi1_some] at *; omega))
    refine rg_end ?_
    refine n_then ?_
    refine cut (γ := Unit) [18, 19, 20, 21, 22, 23, 24, 25] (fun _ => [(25, .bool (decide (0 ≤ t ∧ t < 10 ∧ (el S.rs (k : Int)).ho = t)))]) (fun _ w_ => Ext w9 w_ ∧ True) ?_ ?_
    ·
      have hcut := Out.refl 0 0 w9
      refine rg ?_
      refine st (mvI rfl) ?_
      refine sc cl36 (interlock_isTrain_ok _ _) rfl ?_
      rintro v17 w13 ⟨rfl, ho14⟩
      have hz18 := ho14.size
      replace hX := hX.ext ho14
      replace hb := hb.ext ho14
      replace hr := hr.ext ho14
      replace hf := hf.ext ho14
      replace hE := hE.step ho14 (.inl (Nat.le_refl _))
      replace hmv := hmv.ext ho14
      replace hlp0 := hlp0.step ho14 (.inl (Nat.le_refl _))
      replace hbl7 := hbl7.ext ho14
      replace hcut := hcut.step ho14 (.inl (Nat.le_refl _))
      refine st (mvB rfl) ?_
      refine gspL 20 rfl (fun hg19 => ?_) (fun hg19 => ?_)
      ·
        have hg19n := hg19; try simp only [decide_eq_true_eq, decide_eq_false_iff_not, Bool.not_eq_true', Bool.not_eq_false', Bool.and_eq_true, Bool.or_eq_true, Bool.or_eq_false_iff, Bool.cond_true_right, Bool.cond_false_right, Bool.cond_true_left, Bool.cond_false_left, ne_eq, Decidable.not_not, bne_iff_ne, beq_iff_eq, beq_eq_false_iff_ne, Bool.not_true, Bool.not_false] at hg19n
        simp only [okT, decide_eq_true_eq, decide_eq_false_iff_not] at hg19n
        refine stg rfl rfl hg19 (y_fld fld64_0 rfl) ?_
        refine stg rfl rfl hg19 (y_lb hbl7 na3 rfl rfl) ?_
        refine stg rfl rfl hg19 (mvI rfl) ?_
        refine stg rfl rfl hg19 (y_eql rfl rfl) ?_
        refine st (y_pickT rfl hg19 (v := .bool _) rfl) ?_
        refine rg_end ?_
        exact n_then ⟨(), _, rfl, same_lk rfl (same_rfl), ⟨vb (by simp only [okT, decide_eq_true_eq, decide_eq_false_iff_not, Bool.not_eq_true', Bool.not_eq_eq_eq_not, Bool.not_true, Bool.false_eq_true, false_iff, true_iff, iff_true, iff_false] at *; omega), trivial⟩, ⟨hcut, trivial⟩⟩
      ·
        have hg19n := hg19; try simp only [decide_eq_true_eq, decide_eq_false_iff_not, Bool.not_eq_true', Bool.not_eq_false', Bool.and_eq_true, Bool.or_eq_true, Bool.or_eq_false_iff, Bool.cond_true_right, Bool.cond_false_right, Bool.cond_true_left, Bool.cond_false_left, ne_eq, Decidable.not_not, bne_iff_ne, beq_iff_eq, beq_eq_false_iff_ne, Bool.not_true, Bool.not_false] at hg19n
        simp only [okT, decide_eq_true_eq, decide_eq_false_iff_not] at hg19n
        refine sts rfl rfl hg19 ?_
        refine sts rfl rfl hg19 ?_
        refine sts rfl rfl hg19 ?_
        refine sts rfl rfl hg19 ?_
        refine st (y_pickF rfl hg19 (v := .bool _) rfl) ?_
        refine rg_end ?_
        exact n_then ⟨(), _, rfl, same_lk rfl (same_rfl), ⟨vb (by simp only [okT, decide_eq_true_eq, decide_eq_false_iff_not, Bool.not_eq_true', Bool.not_eq_eq_eq_not, Bool.not_true, Bool.false_eq_true, false_iff, true_iff, iff_true, iff_false] at *; omega), trivial⟩, ⟨hcut, trivial⟩⟩
    ·
      rintro _ hav_ w20 ⟨ho21, _⟩
      have hz22 := ho21.size
      replace hX := hX.ext ho21
      replace hb := hb.ext ho21
      replace hr := hr.ext ho21
      replace hf := hf.ext ho21
      replace hE := hE.step ho21 (.inl (Nat.le_refl _))
      replace hmv := hmv.ext ho21
      replace hlp0 := hlp0.step ho21 (.inl (Nat.le_refl _))
      replace hbl7 := hbl7.ext ho21
      refine cnd rfl (fun hc1 => ?_) (fun hc1 => ?_)
      ·
        try simp only [decide_eq_true_eq, decide_eq_false_iff_not, Bool.not_eq_true', Bool.not_eq_false', Bool.and_eq_true, Bool.or_eq_true, Bool.or_eq_false_iff, Bool.cond_true_right, Bool.cond_false_right, Bool.cond_true_left, Bool.cond_false_left, ne_eq, Decidable.not_not, bne_iff_ne, beq_iff_eq, beq_eq_false_iff_ne, Bool.not_true, Bool.not_false] at hc1
        have hM1 : M ++ [(k : Int)] = heldBy S t (k + 1) := by rw [held_step, if_pos hc1, hM]
        refine rg ?_
        refine st (mvS rfl) ?_
        refine st (mvI rfl) ?_
        refine sd (d_bs (bsl23_1 _ _) rfl ?_)
        intro bl26 w23 hbbl26 hs25 ho24 hbl26
        have hz27 := ho24.size
        replace hX := hX.ext ho24
        replace hb := hb.ext ho24
        replace hr := hr.ext ho24
        replace hf := hf.ext ho24
        replace hE := hE.step ho24 (.inl (Nat.le_refl _))
        replace hmv := hmv.ext ho24
        replace hlp0 := hlp0.step ho24 (.inl (Nat.le_refl _))
        replace hbl7 := hbl7.ext ho24
        have hrhmv := hmv.rng
        refine sd (d_app (xs := [(k : Int)]) hmv sl23 infoz3 (by decide) rfl rfl rfl rfl (hbl26) (fun _ => rfl) (by simp; unfold maxLen; omega) (by simp; omega) (by omega) (by omega) ?_)
        intro am1 cm1 w28 ho29 hmv'
        have hs30 := ho29.size
        clear hmv; have hmv := hmv'; clear hmv'
        have hz33 := ho29.size
        replace hX := hX.out ho29 (by first | omega | (simp only [blk_some, hi1_some] at *; omega))
        replace hb := hb.out ho29 (by first | omega | (simp only [blk_some, hi1_some] at *; omega))
        replace hr := hr.out ho29 (by first | omega | (simp only [blk_some, hi1_some] at *; omega))
        replace hf := hf.out ho29 (by first | omega | (simp only [blk_some, hi1_some] at *; omega))
        replace hE := hE.step ho29 (by first | omega | (simp only [blk_some, hi1_some] at *; omega))
        replace hlp0 := hlp0.step ho29 (by first | omega | (simp only [blk_some, hi1_some] at *; omega))
        replace hbl7 := hbl7.out ho29 (by first | omega | (simp only [blk_some, hi1_some] at *; omega))
        refine st (asS rfl) ?_
        refine rg_end ?_
        refine n_blk ?_
        refine n_then ?_
        refine rg ?_
        refine st (y_add rfl rfl (by omega)) ?_
        refine st (mvI rfl) ?_
        refine rg_end ?_
        exact n_then ⟨(k + 1, _, _, _), _, rfl, same_lk rfl (same_hav rfl (same_lk rfl (same_h0))), ⟨rfl, rfl, trivial⟩, ⟨hlp0, by omega, hM1, hmv.wide (by omega)⟩, by first | omega | (dsimp only; omega)⟩
      ·
        try simp only [decide_eq_true_eq, decide_eq_false_iff_not, Bool.not_eq_true', Bool.not_eq_false', Bool.and_eq_true, Bool.or_eq_true, Bool.or_eq_false_iff, Bool.cond_true_right, Bool.cond_false_right, Bool.cond_true_left, Bool.cond_false_left, ne_eq, Decidable.not_not, bne_iff_ne, beq_iff_eq, beq_eq_false_iff_ne, Bool.not_true, Bool.not_false] at hc1
        have hM1 : M = heldBy S t (k + 1) := by rw [held_step, if_neg hc1, List.append_nil, hM]
        refine wp_skip ?_
        refine n_blk ?_
        refine n_then ?_
        refine rg ?_
        refine st (y_add rfl rfl (by omega)) ?_
        refine st (mvI rfl) ?_
        refine rg_end ?_
        exact n_then ⟨(k + 1, _, _, _), _, rfl, same_lk rfl (same_hav rfl (same_lk rfl (same_h0))), ⟨rfl, rfl, trivial⟩, ⟨hlp0, by omega, hM1, hmv.wide (by omega)⟩, by first | omega | (dsimp only; omega)⟩
  ·
    try simp only [decide_eq_true_eq, decide_eq_false_iff_not, Bool.not_eq_true', Bool.not_eq_false', Bool.and_eq_true, Bool.or_eq_true, Bool.or_eq_false_iff, Bool.cond_true_right, Bool.cond_false_right, Bool.cond_true_left, Bool.cond_false_left, ne_eq, Decidable.not_not, bne_iff_ne, beq_iff_eq, beq_eq_false_iff_ne, Bool.not_true, Bool.not_false] at hc0
    refine wp_exit ?_
    refine e_then (e_then (e_blk (?_)))
    refine n_then ?_
    refine wp_seq ?_
    refine rg ?_
    refine st (mvS rfl) ?_
    refine st (asS rfl) ?_
    refine rg_end ?_
    refine n_then ?_
    refine wp_ret ?_
    refine ret1 (v := (.slice _ _ _)) Try.results27 rfl ?_
    have hk0 : k = S.rs.length := by omega
    subst hk0
    exact ⟨am, cm, by rw [hM], by rw [← hM]; exact Sl.wide hmv.sl (by omega) (Nat.le_refl _), hE⟩

set_option maxRecDepth 100000 in
theorem clone_Fk_ok (ad : Option Addr) (c : Nat) (l : List Fk) (lo hi : Nat) (w : World) (hL : Sl encFk 3 lo hi w ad l) (hn : (l.length : Int) ≤ 1000000) : Cal Try.prog 34 [.slice ad l.length c] w (fun v w' => ∃ ad' c', v = .slice ad' l.length c' ∧ Ow 35 encFk 3 w.heap.size w'.heap.size w' ad' c' l ∧ Ext w w') := by
  replace hL := Sl.full (fun _ => by simp [encFk]) hL
  have hE : Out 0 0 w w := Out.refl _ _ w
  refine enter Try.func34 rfl Try.ntmps34 rfl ?_
  refine wp_seq ?_
  refine rg ?_
  refine st (asS rfl) ?_
  refine rg_end ?_
  refine n_then ?_
  refine wp_seq ?_
  refine wp_seq ?_
  refine rg ?_
  refine st (mvS rfl) ?_
  refine st (y_nilS Try.underlying22 rfl rfl) ?_
  refine rg_end ?_
  refine n_then ?_
  refine cnd rfl (fun hc0 => ?_) (fun hc0 => ?_)
  ·
    try simp only [decide_eq_true_eq, decide_eq_false_iff_not, Bool.not_eq_true', Bool.not_eq_false', Bool.and_eq_true, Bool.or_eq_true, Bool.or_eq_false_iff, Bool.cond_true_right, Bool.cond_false_right, Bool.cond_true_left, Bool.cond_false_left, ne_eq, Decidable.not_not, bne_iff_ne, beq_iff_eq, beq_eq_false_iff_ne, Bool.not_true, Bool.not_false] at hc0
    have hnil : l = [] := by
      cases ad with
      | none => exact Classical.byContradiction fun h => by obtain ⟨⟨b, o, e⟩, _⟩ := hL.plain h; cases e
      | some a => simp at hc0
    refine wp_seq ?_
    refine rg ?_
    refine st (asS rfl) ?_
    refine rg_end ?_
    refine n_then ?_
    refine wp_ret ?_
    refine r_then (ret1 (v := (.slice _ _ _)) Try.results34 rfl ?_)
    subst hnil
    exact ⟨none, 0, rfl, Ow.nil (fun _ => rfl), hE⟩
  ·
    try simp only [decide_eq_true_eq, decide_eq_false_iff_not, Bool.not_eq_true', Bool.not_eq_false', Bool.and_eq_true, Bool.or_eq_true, Bool.or_eq_false_iff, Bool.cond_true_right, Bool.cond_false_right, Bool.cond_true_left, Bool.cond_false_left, ne_eq, Decidable.not_not, bne_iff_ne, beq_iff_eq, beq_eq_false_iff_ne, Bool.not_true, Bool.not_false] at hc0
    have hsome : ad.isSome = true := by cases ad with | none => simp at hc0 | some a => rfl
    refine wp_skip ?_
    refine n_then ?_
    refine wp_seq ?_
    refine rg ?_
    refine sd (d_bs0 (sz := 3) (lo := w.heap.size) (enc := encFk) (fun _ => rfl) (bsl22_0 _) rfl (by omega) ?_)
    intro b0 w1 hbb0 hs3 ho2 hm
    have hz5 := ho2.size
    replace hL := hL.ext ho2
    replace hE := hE.step ho2 (.inl (Nat.le_refl _))
    refine st (mvS rfl) ?_
    have hrhm := hm.rng
    refine sd (d_appS (xs := l) hm sl22 infoz35 (by decide) rfl rfl rfl (rfl) (hsome) (hL) (fun _ => rfl) (by simp; unfold maxLen; omega) (by simp; omega) (by omega) (by omega) ?_)
    intro ad2 cc2 w6 ho7 hm'
    have hs8 := ho7.size
    clear hm; have hm := hm'; clear hm'
    have hz11 := ho7.size
    replace hL := hL.out ho7 (by first | omega | (simp only [blk_some, hi1_some] at *; omega))
    replace hE := hE.step ho7 (by first | omega | (simp only [blk_some, hi1_some] at *; omega))
    refine st (asS rfl) ?_
    refine rg_end ?_
    refine n_then ?_
    refine wp_ret ?_
    refine ret1 (v := (.slice _ _ _)) Try.results34 rfl ?_
    exact ⟨ad2, cc2, by simp, by simpa using hm, hE⟩

set_option maxHeartbeats 1000000 in
set_option maxRecDepth 100000 in
theorem ilk_New_ok (n : Int) (fl : List Fk) (af : Option Addr) (cf la ha : Nat) (w : World) (hF : Sl encFk 3 la ha w af fl) (hcf : fl.length ≤ cf) (hn : (fl.length : Int) ≤ 9223372036854775807) : Cal Try.prog 10 [.int .i64 n, .slice af fl.length cf] w (fun v w' => ∃ p e, v = .tuple #[.pointer p, .int .i64 e] ∧ e = newE n fl ∧ (e ≠ 0 → p = none) ∧ (e = 0 → ∃ b, p = some ⟨b, 0, none⟩ ∧ Ilk w.heap.size w'.heap.size b w' (initS n.toNat fl)) ∧ Ext w w') := by
  replace hF := Sl.full (fun _ => by simp [encFk]) hF
  have hE : Out 0 0 w w := Out.refl _ _ w
  refine enter Try.func10 rfl Try.ntmps10 rfl ?_
  refine wp_seq ?_
  refine rg ?_
  refine st (asP rfl) ?_
  refine st (asI rfl) ?_
  refine rg_end ?_
  refine n_then ?_
  refine wp_seq ?_
  refine cut (γ := Unit) [12, 13, 14, 15, 16, 17] (fun _ => [(17, .bool (decide (¬ (1 ≤ n ∧ n ≤ 144))))]) (fun _ w_ => Ext w w_ ∧ True) ?_ ?_
  ·
    have hcut := Out.refl 0 0 w
    refine rg ?_
    refine st (mvI rfl) ?_
    refine st (y_lss rfl rfl) ?_
    refine st (mvB rfl) ?_
    refine gspL 14 rfl (fun hg1 => ?_) (fun hg1 => ?_)
    ·
      have hg1n := hg1; try simp only [decide_eq_true_eq, decide_eq_false_iff_not, Bool.not_eq_true', Bool.not_eq_false', Bool.and_eq_true, Bool.or_eq_true, Bool.or_eq_false_iff, Bool.cond_true_right, Bool.cond_false_right, Bool.cond_true_left, Bool.cond_false_left, ne_eq, Decidable.not_not, bne_iff_ne, beq_iff_eq, beq_eq_false_iff_ne, Bool.not_true, Bool.not_false] at hg1n
      refine sts rfl rfl hg1 ?_
      refine sts rfl rfl hg1 ?_
      refine st (y_pickT rfl hg1 (v := .bool _) rfl) ?_
      refine rg_end ?_
      exact n_then ⟨(), _, rfl, same_lk rfl (same_rfl), ⟨vb (by simp only [decide_eq_true_eq, decide_eq_false_iff_not, Bool.not_eq_true', Bool.not_eq_eq_eq_not, Bool.not_true, Bool.false_eq_true, false_iff, true_iff, iff_true, iff_false]; omega), trivial⟩, ⟨hcut, trivial⟩⟩
    ·
      have hg1n := hg1; try simp only [decide_eq_true_eq, decide_eq_false_iff_not, Bool.not_eq_true', Bool.not_eq_false', Bool.and_eq_true, Bool.or_eq_true, Bool.or_eq_false_iff, Bool.cond_true_right, Bool.cond_false_right, Bool.cond_true_left, Bool.cond_false_left, ne_eq, Decidable.not_not, bne_iff_ne, beq_iff_eq, beq_eq_false_iff_ne, Bool.not_true, Bool.not_false] at hg1n
      refine stg rfl rfl hg1 (mvI rfl) ?_
      refine stg rfl rfl hg1 (y_gtr rfl rfl) ?_
      refine st (y_pickF rfl hg1 (v := .bool _) rfl) ?_
      refine rg_end ?_
      exact n_then ⟨(), _, rfl, same_lk rfl (same_rfl), ⟨vb (by simp only [decide_eq_true_eq, decide_eq_false_iff_not, Bool.not_eq_true', Bool.not_eq_eq_eq_not, Bool.not_true, Bool.false_eq_true, false_iff, true_iff, iff_true, iff_false]; omega), trivial⟩, ⟨hcut, trivial⟩⟩
  ·
    rintro _ hav_ w2 ⟨ho3, _⟩
    have hz4 := ho3.size
    replace hF := hF.ext ho3
    replace hE := hE.step ho3 (.inl (Nat.le_refl _))
    refine cnd rfl (fun hc0 => ?_) (fun hc0 => ?_)
    ·
      try simp only [decide_eq_true_eq, decide_eq_false_iff_not, Bool.not_eq_true', Bool.not_eq_false', Bool.and_eq_true, Bool.or_eq_true, Bool.or_eq_false_iff, Bool.cond_true_right, Bool.cond_false_right, Bool.cond_true_left, Bool.cond_false_left, ne_eq, Decidable.not_not, bne_iff_ne, beq_iff_eq, beq_eq_false_iff_ne, Bool.not_true, Bool.not_false] at hc0
      refine wp_seq ?_
      refine rg ?_
      refine st (asP rfl) ?_
      refine st (asI rfl) ?_
      refine rg_end ?_
      refine n_then ?_
      refine wp_ret ?_
      refine r_then (ret2 (v := (.pointer _)) (v' := (.int .i64 _)) Try.results10 rfl rfl ?_)
      exact ⟨none, 4, rfl, (newE1 hc0).symm, fun _ => rfl, (fun h => by cases h), hE⟩
    ·
      try simp only [decide_eq_true_eq, decide_eq_false_iff_not, Bool.not_eq_true', Bool.not_eq_false', Bool.and_eq_true, Bool.or_eq_true, Bool.or_eq_false_iff, Bool.cond_true_right, Bool.cond_false_right, Bool.cond_true_left, Bool.cond_false_left, ne_eq, Decidable.not_not, bne_iff_ne, beq_iff_eq, beq_eq_false_iff_ne, Bool.not_true, Bool.not_false] at hc0
      obtain ⟨m, rfl⟩ : ∃ m : Nat, n = m := ⟨n.toNat, by omega⟩
      refine wp_skip ?_
      refine n_then ?_
      refine wp_seq ?_
      refine wp_seq ?_
      refine rg ?_
      refine st (mvS rfl) ?_
      refine st (y_len Try.underlying22 rfl) ?_
      refine st (y_gtr rfl rfl) ?_
      refine rg_end ?_
      refine n_then ?_
      refine cnd rfl (fun hc1 => ?_) (fun hc1 => ?_)
      ·
        try simp only [decide_eq_true_eq, decide_eq_false_iff_not, Bool.not_eq_true', Bool.not_eq_false', Bool.and_eq_true, Bool.or_eq_true, Bool.or_eq_false_iff, Bool.cond_true_right, Bool.cond_false_right, Bool.cond_true_left, Bool.cond_false_left, ne_eq, Decidable.not_not, bne_iff_ne, beq_iff_eq, beq_eq_false_iff_ne, Bool.not_true, Bool.not_false] at hc1
        refine wp_seq ?_
        refine rg ?_
        refine st (asP rfl) ?_
        refine st (asI rfl) ?_
        refine rg_end ?_
        refine n_then ?_
        refine wp_ret ?_
        refine r_then (ret2 (v := (.pointer _)) (v' := (.int .i64 _)) Try.results10 rfl rfl ?_)
        exact ⟨none, 7, rfl, (newE2 hc0 hc1).symm, fun _ => rfl, (fun h => by cases h), hE⟩
      ·
        try simp only [decide_eq_true_eq, decide_eq_false_iff_not, Bool.not_eq_true', Bool.not_eq_false', Bool.and_eq_true, Bool.or_eq_true, Bool.or_eq_false_iff, Bool.cond_true_right, Bool.cond_false_right, Bool.cond_true_left, Bool.cond_false_left, ne_eq, Decidable.not_not, bne_iff_ne, beq_iff_eq, beq_eq_false_iff_ne, Bool.not_true, Bool.not_false] at hc1
        have hne := newE3 hc0 (fl := fl) (by omega)
        refine wp_skip ?_
        refine n_then ?_
        refine wp_seq ?_
        refine wp_seq ?_
        refine rg ?_
        refine st (mvS rfl) ?_
        refine st (y_len Try.underlying22 rfl) ?_
        refine st (mvI rfl) ?_
        refine rg_end ?_
        refine n_then ?_
        refine wp_block ?_
        refine lp (γ := Nat) [4, 5, 6, 7, 9, 23, 24, 25, 26, 27, 28, 29, 30, 31, 32, 33, 34, 35, 36, 37, 38, 39, 40, 41, 42, 43, 44, 45, 46, 47, 48, 49, 50, 51, 52, 53, 54, 55, 56, 57, 58, 59, 60, 61, 62, 63, 64, 65, 66, 67, 68, 69, 70, 71, 72, 73, 74, 75, 76, 77, 78, 79, 80, 81, 82, 83, 84, 85, 86] (fun k => [(23, .int .i64 (k : Int))]) (fun k w_ => Ext w2 w_ ∧ (k : Int) ≤ fl.length ∧ newGo m [] fl = newGo m (fl.take k) (fl.drop k)) (fun k => fl.length - k) 0 ⟨rfl, trivial⟩ ⟨Out.refl _ _ _, by omega, rfl⟩ ?_
        rintro k hav_ w5 ⟨ho6, hk, hgo⟩
        have hlp0 := ho6
        have hz7 := ho6.size
        replace hF := hF.ext ho6
        replace hE := hE.step ho6 (.inl (Nat.le_refl _))
        refine wp_seq ?_
        refine rg ?_
        refine st (y_lss rfl rfl) ?_
        refine rg_end ?_
        refine n_then ?_
        refine wp_seq ?_
        refine cnd rfl (fun hc2 => ?_) (fun hc2 => ?_)
        ·
          try simp only [decide_eq_true_eq, decide_eq_false_iff_not, Bool.not_eq_true', Bool.not_eq_false', Bool.and_eq_true, Bool.or_eq_true, Bool.or_eq_false_iff, Bool.cond_true_right, Bool.cond_false_right, Bool.cond_true_left, Bool.cond_false_left, ne_eq, Decidable.not_not, bne_iff_ne, beq_iff_eq, beq_eq_false_iff_ne, Bool.not_true, Bool.not_false] at hc2
          refine wp_skip ?_
          refine n_then ?_
          refine wp_seq ?_
          refine wp_block ?_
          refine wp_seq ?_
          refine rg ?_
          refine st (mvI rfl) ?_
          refine st (y_ix hF sl22 rfl (rfl) rfl (by omega) (by omega)) ?_
          refine st (y_lw hF agg35 rfl (by omega) (by omega)) ?_
          refine sd (d_allocA zer35 ?_)
          intro b7 w8 hbb7 hs10 ho9 hb7
          have hz11 := ho9.size
          replace hF := hF.ext ho9
          replace hE := hE.step ho9 (.inl (Nat.le_refl _))
          replace hlp0 := hlp0.step ho9 (.inl (Nat.le_refl _))
          refine st (asI rfl) ?_
          refine sd0 (d_stN hb7 rfl rfl sz35 rfl rfl ?_)
          intro w12 hs14 ho13 hb7'
          clear hb7; have hb7 := hb7'; clear hb7'
          have hz15 := ho13.size
          replace hF := hF.out ho13 (by first | omega | (simp only [blk_some, hi1_some] at *; omega))
          replace hE := hE.step ho13 (by first | omega | (simp only [blk_some, hi1_some] at *; omega))
          replace hlp0 := hlp0.step ho13 (by first | omega | (simp only [blk_some, hi1_some] at *; omega))
          refine rg_end ?_
          refine n_then ?_
          refine wp_seq ?_
          refine wp_block ?_
          refine cut (γ := Unit) [28, 29, 30, 31, 32, 33, 34, 35, 36, 37, 38, 39, 40, 41, 42, 43, 44, 45, 46, 47, 48, 49, 50, 51, 52, 53, 54, 55, 56, 57, 58] (fun _ => [(28, .bool (fkBad m (el fl (k : Int))))]) (fun _ w_ => Ext w12 w_ ∧ True) ?_ ?_
          ·
            have hcut := Out.refl 0 0 w12
            refine rg ?_
            refine st (y_fld fld35_0 rfl) ?_
            refine st (y_lb hb7 na3 rfl rfl) ?_
            refine st (y_lss rfl rfl) ?_
            refine st (mvB rfl) ?_
            refine gspL 32 rfl (fun hg16 => ?_) (fun hg16 => ?_)
            ·
              have hg16n := hg16; try simp only [decide_eq_true_eq, decide_eq_false_iff_not, Bool.not_eq_true', Bool.not_eq_false', Bool.and_eq_true, Bool.or_eq_true, Bool.or_eq_false_iff, Bool.cond_true_right, Bool.cond_false_right, Bool.cond_true_left, Bool.cond_false_left, ne_eq, Decidable.not_not, bne_iff_ne, beq_iff_eq, beq_eq_false_iff_ne, Bool.not_true, Bool.not_false] at hg16n
              refine sts rfl rfl hg16 ?_
              refine sts rfl rfl hg16 ?_
              refine sts rfl rfl hg16 ?_
              refine sts rfl rfl hg16 ?_
              refine st (y_pickT rfl hg16 (v := .bool _) rfl) ?_
              refine st (mvB rfl) ?_
              refine sts rfl rfl rfl ?_
              refine sts rfl rfl rfl ?_
              refine sts rfl rfl rfl ?_
              refine st (y_pickT rfl rfl (v := .bool _) rfl) ?_
              refine st (mvB rfl) ?_
              refine sts rfl rfl rfl ?_
              refine sts rfl rfl rfl ?_
              refine sts rfl rfl rfl ?_
              refine sts rfl rfl rfl ?_
              refine st (y_pickT rfl rfl (v := .bool _) rfl) ?_
              refine st (mvB rfl) ?_
              refine sts rfl rfl rfl ?_
              refine sts rfl rfl rfl ?_
              refine sts rfl rfl rfl ?_
              refine st (y_pickT rfl rfl (v := .bool _) rfl) ?_
              refine st (mvB rfl) ?_
              refine sts rfl rfl rfl ?_
              refine sts rfl rfl rfl ?_
              refine sts rfl rfl rfl ?_
              refine st (y_pickT rfl rfl (v := .bool _) rfl) ?_
              refine st (asB rfl) ?_
              refine rg_end ?_
              exact n_then ⟨(), _, rfl, same_lk rfl (same_rfl), ⟨vb (by simp only [fkBad, decide_eq_true_eq, decide_eq_false_iff_not, Bool.not_eq_true', Bool.not_eq_eq_eq_not, Bool.not_true, Bool.false_eq_true, false_iff, true_iff, iff_true, iff_false]; omega), trivial⟩, ⟨hcut, trivial⟩⟩
            ·
              have hg16n := hg16; try simp only [decide_eq_true_eq, decide_eq_false_iff_not, Bool.not_eq_true', Bool.not_eq_false', Bool.and_eq_true, Bool.or_eq_true, Bool.or_eq_false_iff, Bool.cond_true_right, Bool.cond_false_right, Bool.cond_true_left, Bool.cond_false_left, ne_eq, Decidable.not_not, bne_iff_ne, beq_iff_eq, beq_eq_false_iff_ne, Bool.not_true, Bool.not_false] at hg16n
              refine stg rfl rfl hg16 (y_fld fld35_0 rfl) ?_
              refine stg rfl rfl hg16 (y_lb hb7 na3 rfl rfl) ?_
              refine stg rfl rfl hg16 (mvI rfl) ?_
              refine stg rfl rfl hg16 (y_geq rfl rfl) ?_
              refine st (y_pickF rfl hg16 (v := .bool _) rfl) ?_
              refine st (mvB rfl) ?_
              refine gspL 38 rfl (fun hg17 => ?_) (fun hg17 => ?_)
              ·
                have hg17n := hg17; try simp only [decide_eq_true_eq, decide_eq_false_iff_not, Bool.not_eq_true', Bool.not_eq_false', Bool.and_eq_true, Bool.or_eq_true, Bool.or_eq_false_iff, Bool.cond_true_right, Bool.cond_false_right, Bool.cond_true_left, Bool.cond_false_left, ne_eq, Decidable.not_not, bne_iff_ne, beq_iff_eq, beq_eq_false_iff_ne, Bool.not_true, Bool.not_false] at hg17n
                refine sts rfl rfl hg17 ?_
                refine sts rfl rfl hg17 ?_
                refine sts rfl rfl hg17 ?_
                refine st (y_pickT rfl hg17 (v := .bool _) rfl) ?_
                refine st (mvB rfl) ?_
                refine sts rfl rfl rfl ?_
                refine sts rfl rfl rfl ?_
                refine sts rfl rfl rfl ?_
                refine sts rfl rfl rfl ?_
                refine st (y_pickT rfl rfl (v := .bool _) rfl) ?_
                refine st (mvB rfl) ?_
                refine sts rfl rfl rfl ?_
                refine sts rfl rfl rfl ?_
                refine sts rfl rfl rfl ?_
                refine st (y_pickT rfl rfl (v := .bool _) rfl) ?_
                refine st (mvB rfl) ?_
                refine sts rfl rfl rfl ?_
                refine sts rfl rfl rfl ?_
                refine sts rfl rfl rfl ?_
                refine st (y_pickT rfl rfl (v := .bool _) rfl) ?_
                refine st (asB rfl) ?_
                refine rg_end ?_
                exact n_then ⟨(), _, rfl, same_lk rfl (same_rfl), ⟨vb (by simp only [fkBad, decide_eq_true_eq, decide_eq_false_iff_not, Bool.not_eq_true', Bool.not_eq_eq_eq_not, Bool.not_true, Bool.false_eq_true, false_iff, true_iff, iff_true, iff_false]; omega), trivial⟩, ⟨hcut, trivial⟩⟩
              ·
                have hg17n := hg17; try simp only [decide_eq_true_eq, decide_eq_false_iff_not, Bool.not_eq_true', Bool.not_eq_false', Bool.and_eq_true, Bool.or_eq_true, Bool.or_eq_false_iff, Bool.cond_true_right, Bool.cond_false_right, Bool.cond_true_left, Bool.cond_false_left, ne_eq, Decidable.not_not, bne_iff_ne, beq_iff_eq, beq_eq_false_iff_ne, Bool.not_true, Bool.not_false] at hg17n
                refine stg rfl rfl hg17 (y_fld fld35_1 rfl) ?_
                refine stg rfl rfl hg17 (y_lb hb7 na3 rfl rfl) ?_
                refine stg rfl rfl hg17 (y_lss rfl rfl) ?_
                refine st (y_pickF rfl hg17 (v := .bool _) rfl) ?_
                refine st (mvB rfl) ?_
                refine gspL 43 rfl (fun hg18 => ?_) (fun hg18 => ?_)
                ·
                  have hg18n := hg18; try simp only [decide_eq_true_eq, decide_eq_false_iff_not, Bool.not_eq_true', Bool.not_eq_false', Bool.and_eq_true, Bool.or_eq_true, Bool.or_eq_false_iff, Bool.cond_true_right, Bool.cond_false_right, Bool.cond_true_left, Bool.cond_false_left, ne_eq, Decidable.not_not, bne_iff_ne, beq_iff_eq, beq_eq_false_iff_ne, Bool.not_true, Bool.not_false] at hg18n
                  refine sts rfl rfl hg18 ?_
                  refine sts rfl rfl hg18 ?_
                  refine sts rfl rfl hg18 ?_
                  refine sts rfl rfl hg18 ?_
                  refine st (y_pickT rfl hg18 (v := .bool _) rfl) ?_
                  refine st (mvB rfl) ?_
                  refine sts rfl rfl rfl ?_
                  refine sts rfl rfl rfl ?_
                  refine sts rfl rfl rfl ?_
                  refine st (y_pickT rfl rfl (v := .bool _) rfl) ?_
                  refine st (mvB rfl) ?_
                  refine sts rfl rfl rfl ?_
                  refine sts rfl rfl rfl ?_
                  refine sts rfl rfl rfl ?_
                  refine st (y_pickT rfl rfl (v := .bool _) rfl) ?_
                  refine st (asB rfl) ?_
                  refine rg_end ?_
                  exact n_then ⟨(), _, rfl, same_lk rfl (same_rfl), ⟨vb (by simp only [fkBad, decide_eq_true_eq, decide_eq_false_iff_not, Bool.not_eq_true', Bool.not_eq_eq_eq_not, Bool.not_true, Bool.false_eq_true, false_iff, true_iff, iff_true, iff_false]; omega), trivial⟩, ⟨hcut, trivial⟩⟩
                ·
                  have hg18n := hg18; try simp only [decide_eq_true_eq, decide_eq_false_iff_not, Bool.not_eq_true', Bool.not_eq_false', Bool.and_eq_true, Bool.or_eq_true, Bool.or_eq_false_iff, Bool.cond_true_right, Bool.cond_false_right, Bool.cond_true_left, Bool.cond_false_left, ne_eq, Decidable.not_not, bne_iff_ne, beq_iff_eq, beq_eq_false_iff_ne, Bool.not_true, Bool.not_false] at hg18n
                  refine stg rfl rfl hg18 (y_fld fld35_1 rfl) ?_
                  refine stg rfl rfl hg18 (y_lb hb7 na3 rfl rfl) ?_
                  refine stg rfl rfl hg18 (mvI rfl) ?_
                  refine stg rfl rfl hg18 (y_geq rfl rfl) ?_
                  refine st (y_pickF rfl hg18 (v := .bool _) rfl) ?_
                  refine st (mvB rfl) ?_
                  refine gspL 49 rfl (fun hg19 => ?_) (fun hg19 => ?_)
                  ·
                    have hg19n := hg19; try simp only [decide_eq_true_eq, decide_eq_false_iff_not, Bool.not_eq_true', Bool.not_eq_false', Bool.and_eq_true, Bool.or_eq_true, Bool.or_eq_false_iff, Bool.cond_true_right, Bool.cond_false_right, Bool.cond_true_left, Bool.cond_false_left, ne_eq, Decidable.not_not, bne_iff_ne, beq_iff_eq, beq_eq_false_iff_ne, Bool.not_true, Bool.not_false] at hg19n
                    refine sts rfl rfl hg19 ?_
                    refine sts rfl rfl hg19 ?_
                    refine sts rfl rfl hg19 ?_
                    refine st (y_pickT rfl hg19 (v := .bool _) rfl) ?_
                    refine st (mvB rfl) ?_
                    refine sts rfl rfl rfl ?_
                    refine sts rfl rfl rfl ?_
                    refine sts rfl rfl rfl ?_
                    refine st (y_pickT rfl rfl (v := .bool _) rfl) ?_
                    refine st (asB rfl) ?_
                    refine rg_end ?_
                    exact n_then ⟨(), _, rfl, same_lk rfl (same_rfl), ⟨vb (by simp only [fkBad, decide_eq_true_eq, decide_eq_false_iff_not, Bool.not_eq_true', Bool.not_eq_eq_eq_not, Bool.not_true, Bool.false_eq_true, false_iff, true_iff, iff_true, iff_false]; omega), trivial⟩, ⟨hcut, trivial⟩⟩
                  ·
                    have hg19n := hg19; try simp only [decide_eq_true_eq, decide_eq_false_iff_not, Bool.not_eq_true', Bool.not_eq_false', Bool.and_eq_true, Bool.or_eq_true, Bool.or_eq_false_iff, Bool.cond_true_right, Bool.cond_false_right, Bool.cond_true_left, Bool.cond_false_left, ne_eq, Decidable.not_not, bne_iff_ne, beq_iff_eq, beq_eq_false_iff_ne, Bool.not_true, Bool.not_false] at hg19n
                    refine stg rfl rfl hg19 (y_fld fld35_2 rfl) ?_
                    refine stg rfl rfl hg19 (y_lb hb7 na3 rfl rfl) ?_
                    refine stg rfl rfl hg19 (y_lss rfl rfl) ?_
                    refine st (y_pickF rfl hg19 (v := .bool _) rfl) ?_
                    refine st (mvB rfl) ?_
                    refine gspL 54 rfl (fun hg20 => ?_) (fun hg20 => ?_)
                    ·
                      have hg20n := hg20; try simp only [decide_eq_true_eq, decide_eq_false_iff_not, Bool.not_eq_true', Bool.not_eq_false', Bool.and_eq_true, Bool.or_eq_true, Bool.or_eq_false_iff, Bool.cond_true_right, Bool.cond_false_right, Bool.cond_true_left, Bool.cond_false_left, ne_eq, Decidable.not_not, bne_iff_ne, beq_iff_eq, beq_eq_false_iff_ne, Bool.not_true, Bool.not_false] at hg20n
                      refine sts rfl rfl hg20 ?_
                      refine sts rfl rfl hg20 ?_
                      refine sts rfl rfl hg20 ?_
                      refine st (y_pickT rfl hg20 (v := .bool _) rfl) ?_
                      refine st (asB rfl) ?_
                      refine rg_end ?_
                      exact n_then ⟨(), _, rfl, same_lk rfl (same_rfl), ⟨vb (by simp only [fkBad, decide_eq_true_eq, decide_eq_false_iff_not, Bool.not_eq_true', Bool.not_eq_eq_eq_not, Bool.not_true, Bool.false_eq_true, false_iff, true_iff, iff_true, iff_false]; omega), trivial⟩, ⟨hcut, trivial⟩⟩
                    ·
                      have hg20n := hg20; try simp only [decide_eq_true_eq, decide_eq_false_iff_not, Bool.not_eq_true', Bool.not_eq_false', Bool.and_eq_true, Bool.or_eq_true, Bool.or_eq_false_iff, Bool.cond_true_right, Bool.cond_false_right, Bool.cond_true_left, Bool.cond_false_left, ne_eq, Decidable.not_not, bne_iff_ne, beq_iff_eq, beq_eq_false_iff_ne, Bool.not_true, Bool.not_false] at hg20n
                      refine stg rfl rfl hg20 (y_fld fld35_2 rfl) ?_
                      refine stg rfl rfl hg20 (y_lb hb7 na3 rfl rfl) ?_
                      refine stg rfl rfl hg20 (y_gtr rfl rfl) ?_
                      refine st (y_pickF rfl hg20 (v := .bool _) rfl) ?_
                      refine st (asB rfl) ?_
                      refine rg_end ?_
                      exact n_then ⟨(), _, rfl, same_lk rfl (same_rfl), ⟨vb (by simp only [fkBad, decide_eq_true_eq, decide_eq_false_iff_not, Bool.not_eq_true', Bool.not_eq_eq_eq_not, Bool.not_true, Bool.false_eq_true, false_iff, true_iff, iff_true, iff_false]; omega), trivial⟩, ⟨hcut, trivial⟩⟩
          ·
            rintro _ hav_ w21 ⟨ho22, _⟩
            have hz23 := ho22.size
            replace hF := hF.ext ho22
            replace hE := hE.step ho22 (.inl (Nat.le_refl _))
            replace hlp0 := hlp0.step ho22 (.inl (Nat.le_refl _))
            replace hb7 := hb7.ext ho22
            refine cnd rfl (fun hc3 => ?_) (fun hc3 => ?_)
            ·
              try simp only [decide_eq_true_eq, decide_eq_false_iff_not, Bool.not_eq_true', Bool.not_eq_false', Bool.and_eq_true, Bool.or_eq_true, Bool.or_eq_false_iff, Bool.cond_true_right, Bool.cond_false_right, Bool.cond_true_left, Bool.cond_false_left, ne_eq, Decidable.not_not, bne_iff_ne, beq_iff_eq, beq_eq_false_iff_ne, Bool.not_true, Bool.not_false] at hc3
              refine wp_seq ?_
              refine rg ?_
              refine st (asP rfl) ?_
              refine st (asI rfl) ?_
              refine rg_end ?_
              refine n_then ?_
              refine wp_ret ?_
              refine r_blk (r_then (r_blk (r_then (r_then (r_blk (r_then (ret2 (v := (.pointer _)) (v' := (.int .i64 _)) Try.results10 rfl rfl ?_)))))))
              exact ⟨none, 4, rfl, (hne.trans ((newGo_err hc2 hgo (by rw [fkE1 hc3]; decide)).trans (fkE1 hc3))).symm, fun _ => rfl, (fun h => by cases h), hE⟩
            ·
              try simp only [decide_eq_true_eq, decide_eq_false_iff_not, Bool.not_eq_true', Bool.not_eq_false', Bool.and_eq_true, Bool.or_eq_true, Bool.or_eq_false_iff, Bool.cond_true_right, Bool.cond_false_right, Bool.cond_true_left, Bool.cond_false_left, ne_eq, Decidable.not_not, bne_iff_ne, beq_iff_eq, beq_eq_false_iff_ne, Bool.not_true, Bool.not_false] at hc3
              refine wp_seq ?_
              refine rg ?_
              refine st (y_fld fld35_0 rfl) ?_
              refine st (y_lb hb7 na3 rfl rfl) ?_
              refine st (y_fld fld35_1 rfl) ?_
              refine st (y_lb hb7 na3 rfl rfl) ?_
              refine st (y_eql rfl rfl) ?_
              refine st (asB rfl) ?_
              refine rg_end ?_
              refine n_then ?_
              refine cnd rfl (fun hc4 => ?_) (fun hc4 => ?_)
              ·
                try simp only [decide_eq_true_eq, decide_eq_false_iff_not, Bool.not_eq_true', Bool.not_eq_false', Bool.and_eq_true, Bool.or_eq_true, Bool.or_eq_false_iff, Bool.cond_true_right, Bool.cond_false_right, Bool.cond_true_left, Bool.cond_false_left, ne_eq, Decidable.not_not, bne_iff_ne, beq_iff_eq, beq_eq_false_iff_ne, Bool.not_true, Bool.not_false] at hc4
                refine wp_seq ?_
                refine rg ?_
                refine st (asP rfl) ?_
                refine st (asI rfl) ?_
                refine rg_end ?_
                refine n_then ?_
                refine wp_ret ?_
                refine r_blk (r_then (r_blk (r_then (r_then (r_blk (r_then (ret2 (v := (.pointer _)) (v' := (.int .i64 _)) Try.results10 rfl rfl ?_)))))))
                exact ⟨none, 1, rfl, (hne.trans ((newGo_err hc2 hgo (by rw [fkE2 hc3 hc4]; decide)).trans (fkE2 hc3 hc4))).symm, fun _ => rfl, (fun h => by cases h), hE⟩
              ·
                try simp only [decide_eq_true_eq, decide_eq_false_iff_not, Bool.not_eq_true', Bool.not_eq_false', Bool.and_eq_true, Bool.or_eq_true, Bool.or_eq_false_iff, Bool.cond_true_right, Bool.cond_false_right, Bool.cond_true_left, Bool.cond_false_left, ne_eq, Decidable.not_not, bne_iff_ne, beq_iff_eq, beq_eq_false_iff_ne, Bool.not_true, Bool.not_false] at hc4
                refine wp_skip ?_
                refine n_blk ?_
                refine n_then ?_
                refine wp_seq ?_
                refine rg ?_
                refine st (mvS rfl) ?_
                refine st (mvI rfl) ?_
                refine st (y_slh sl22 rfl rfl (by omega) (by omega)) ?_
                have hpre := hF.take k
                refine st (y_len Try.underlying22 rfl) ?_
                refine st (mvI rfl) ?_
                refine rg_end ?_
                refine n_then ?_
                refine wp_block ?_
                refine lp (γ := Nat) [4, 5, 9, 69, 70, 71, 72, 73, 74, 75, 76, 77, 78, 79, 80, 81, 82, 83, 84, 85] (fun j => [(69, .int .i64 (j : Int))]) (fun j w_ => Ext w21 w_ ∧ j ≤ k ∧ (fl.take j).any (sameFk (el fl (k : Int))) = false) (fun j => k - j) 0 ⟨rfl, trivial⟩ ⟨Out.refl _ _ _, by omega, by simp⟩ ?_
                rintro j hav_ w24 ⟨ho25, hj, hany⟩
                have hlp1 := ho25
                have hz26 := ho25.size
                replace hF := hF.ext ho25
                replace hE := hE.step ho25 (.inl (Nat.le_refl _))
                replace hlp0 := hlp0.step ho25 (.inl (Nat.le_refl _))
                replace hb7 := hb7.ext ho25
                replace hpre := hpre.ext ho25
                refine wp_seq ?_
                refine rg ?_
                refine st (y_lss rfl rfl) ?_
                refine rg_end ?_
                refine n_then ?_
                refine wp_seq ?_
                refine cnd rfl (fun hc5 => ?_) (fun hc5 => ?_)
                ·
                  try simp only [decide_eq_true_eq, decide_eq_false_iff_not, Bool.not_eq_true', Bool.not_eq_false', Bool.and_eq_true, Bool.or_eq_true, Bool.or_eq_false_iff, Bool.cond_true_right, Bool.cond_false_right, Bool.cond_true_left, Bool.cond_false_left, ne_eq, Decidable.not_not, bne_iff_ne, beq_iff_eq, beq_eq_false_iff_ne, Bool.not_true, Bool.not_false] at hc5
                  have het : el (fl.take k) (j : Int) = el fl (j : Int) := el_take (by omega) (by omega)
                  have hpl : (fl.take k).length = k := by simp; omega
                  refine wp_skip ?_
                  refine n_then ?_
                  refine wp_seq ?_
                  refine wp_block ?_
                  refine wp_seq ?_
                  refine rg ?_
                  refine st (y_ix hpre sl22 rfl (by simp; omega) rfl (by omega) (by omega)) ?_
                  refine st (y_lw hpre agg35 rfl (by omega) (by omega)) ?_
                  refine sd (d_allocA zer35 ?_)
                  intro b9 w27 hbb9 hs29 ho28 hb9
                  have hz30 := ho28.size
                  replace hF := hF.ext ho28
                  replace hE := hE.step ho28 (.inl (Nat.le_refl _))
                  replace hlp0 := hlp0.step ho28 (.inl (Nat.le_refl _))
                  replace hb7 := hb7.ext ho28
                  replace hpre := hpre.ext ho28
                  replace hlp1 := hlp1.step ho28 (.inl (Nat.le_refl _))
                  refine sd0 (d_stN hb9 rfl rfl sz35 rfl rfl ?_)
                  intro w31 hs33 ho32 hb9'
                  clear hb9; have hb9 := hb9'; clear hb9'
                  have hz34 := ho32.size
                  replace hF := hF.out ho32 (by first | omega | (simp only [blk_some, hi1_some] at *; omega))
                  replace hE := hE.step ho32 (by first | omega | (simp only [blk_some, hi1_some] at *; omega))
                  replace hlp0 := hlp0.step ho32 (by first | omega | (simp only [blk_some, hi1_some] at *; omega))
                  replace hb7 := hb7.out ho32 (by first | omega | (simp only [blk_some, hi1_some] at *; omega))
                  replace hpre := hpre.out ho32 (by first | omega | (simp only [blk_some, hi1_some] at *; omega))
                  replace hlp1 := hlp1.step ho32 (by first | omega | (simp only [blk_some, hi1_some] at *; omega))
                  refine rg_end ?_
                  refine n_then ?_
                  refine cut (γ := Unit) [73, 74, 75, 76, 77, 78, 79, 80, 81, 82, 83, 84] (fun _ => [(84, .bool (sameFk (el fl (k : Int)) (el fl (j : Int))))]) (fun _ w_ => Ext w31 w_ ∧ True) ?_ ?_
                  ·
                    have hcut := Out.refl 0 0 w31
                    refine rg ?_
                    refine st (y_fld fld35_0 rfl) ?_
                    refine st (y_lb hb9 na3 rfl rfl) ?_
                    refine st (y_fld fld35_0 rfl) ?_
                    refine st (y_lb hb7 na3 rfl rfl) ?_
                    refine st (y_eql rfl rfl) ?_
                    refine st (mvB rfl) ?_
                    refine gspL 78 rfl (fun hg35 => ?_) (fun hg35 => ?_)
                    ·
                      have hg35n := hg35; try simp only [decide_eq_true_eq, decide_eq_false_iff_not, Bool.not_eq_true', Bool.not_eq_false', Bool.and_eq_true, Bool.or_eq_true, Bool.or_eq_false_iff, Bool.cond_true_right, Bool.cond_false_right, Bool.cond_true_left, Bool.cond_false_left, ne_eq, Decidable.not_not, bne_iff_ne, beq_iff_eq, beq_eq_false_iff_ne, Bool.not_true, Bool.not_false] at hg35n
                      refine stg rfl rfl hg35 (y_fld fld35_1 rfl) ?_
                      refine stg rfl rfl hg35 (y_lb hb9 na3 rfl rfl) ?_
                      refine stg rfl rfl hg35 (y_fld fld35_1 rfl) ?_
                      refine stg rfl rfl hg35 (y_lb hb7 na3 rfl rfl) ?_
                      refine stg rfl rfl hg35 (y_eql rfl rfl) ?_
                      refine st (y_pickT rfl hg35 (v := .bool _) rfl) ?_
                      refine rg_end ?_
                      exact n_then ⟨(), _, rfl, same_lk rfl (same_rfl), ⟨vb (by simp only [sameFk, ← het, decide_eq_true_eq, decide_eq_false_iff_not, Bool.not_eq_true', Bool.not_eq_eq_eq_not, Bool.not_true, Bool.false_eq_true, false_iff, true_iff, iff_true, iff_false]; omega), trivial⟩, ⟨hcut, trivial⟩⟩
                    ·
                      have hg35n := hg35; try simp only [decide_eq_true_eq, decide_eq_false_iff_not, Bool.not_eq_true', Bool.not_eq_false', Bool.and_eq_true, Bool.or_eq_true, Bool.or_eq_false_iff, Bool.cond_true_right, Bool.cond_false_right, Bool.cond_true_left, Bool.cond_false_left, ne_eq, Decidable.not_not, bne_iff_ne, beq_iff_eq, beq_eq_false_iff_ne, Bool.not_true, Bool.not_false] at hg35n
                      refine sts rfl rfl hg35 ?_
                      refine sts rfl rfl hg35 ?_
                      refine sts rfl rfl hg35 ?_
                      refine sts rfl rfl hg35 ?_
                      refine sts rfl rfl hg35 ?_
                      refine st (y_pickF rfl hg35 (v := .bool _) rfl) ?_
                      refine rg_end ?_
                      exact n_then ⟨(), _, rfl, same_lk rfl (same_rfl), ⟨vb (by simp only [sameFk, ← het, decide_eq_true_eq, decide_eq_false_iff_not, Bool.not_eq_true', Bool.not_eq_eq_eq_not, Bool.not_true, Bool.false_eq_true, false_iff, true_iff, iff_true, iff_false]; omega), trivial⟩, ⟨hcut, trivial⟩⟩
                  ·
                    rintro _ hav_ w36 ⟨ho37, _⟩
                    have hz38 := ho37.size
                    replace hF := hF.ext ho37
                    replace hE := hE.step ho37 (.inl (Nat.le_refl _))
                    replace hlp0 := hlp0.step ho37 (.inl (Nat.le_refl _))
                    replace hb7 := hb7.ext ho37
                    replace hpre := hpre.ext ho37
                    replace hlp1 := hlp1.step ho37 (.inl (Nat.le_refl _))
                    replace hb9 := hb9.ext ho37
                    refine cnd rfl (fun hc6 => ?_) (fun hc6 => ?_)
                    ·
                      try simp only [decide_eq_true_eq, decide_eq_false_iff_not, Bool.not_eq_true', Bool.not_eq_false', Bool.and_eq_true, Bool.or_eq_true, Bool.or_eq_false_iff, Bool.cond_true_right, Bool.cond_false_right, Bool.cond_true_left, Bool.cond_false_left, ne_eq, Decidable.not_not, bne_iff_ne, beq_iff_eq, beq_eq_false_iff_ne, Bool.not_true, Bool.not_false] at hc6
                      refine wp_seq ?_
                      refine rg ?_
                      refine st (asP rfl) ?_
                      refine st (asI rfl) ?_
                      refine rg_end ?_
                      refine n_then ?_
                      refine wp_ret ?_
                      refine r_blk (r_then (r_then (r_blk (r_blk (r_then (r_then (r_blk (r_then (ret2 (v := (.pointer _)) (v' := (.int .i64 _)) Try.results10 rfl rfl ?_)))))))))
                      exact ⟨none, 5, rfl, (hne.trans ((newGo_err hc2 hgo (by rw [fkE3 hc3 hc4 (any_pre hc2 (by omega) hc6)]; decide)).trans (fkE3 hc3 hc4 (any_pre hc2 (by omega) hc6)))).symm, fun _ => rfl, (fun h => by cases h), hE⟩
                    ·
                      try simp only [decide_eq_true_eq, decide_eq_false_iff_not, Bool.not_eq_true', Bool.not_eq_false', Bool.and_eq_true, Bool.or_eq_true, Bool.or_eq_false_iff, Bool.cond_true_right, Bool.cond_false_right, Bool.cond_true_left, Bool.cond_false_left, ne_eq, Decidable.not_not, bne_iff_ne, beq_iff_eq, beq_eq_false_iff_ne, Bool.not_true, Bool.not_false] at hc6
                      refine wp_skip ?_
                      refine n_blk ?_
                      refine n_then ?_
                      refine rg ?_
                      refine st (y_add rfl rfl (by omega)) ?_
                      refine st (mvI rfl) ?_
                      refine rg_end ?_
                      exact n_then ⟨j + 1, _, rfl, same_lk rfl (same_hav rfl (same_lk rfl (same_h0))), ⟨rfl, trivial⟩, ⟨hlp1, by omega, any_take_step (by omega) hany hc6⟩, by first | omega | (dsimp only; omega)⟩
                ·
                  try simp only [decide_eq_true_eq, decide_eq_false_iff_not, Bool.not_eq_true', Bool.not_eq_false', Bool.and_eq_true, Bool.or_eq_true, Bool.or_eq_false_iff, Bool.cond_true_right, Bool.cond_false_right, Bool.cond_true_left, Bool.cond_false_left, ne_eq, Decidable.not_not, bne_iff_ne, beq_iff_eq, beq_eq_false_iff_ne, Bool.not_true, Bool.not_false] at hc5
                  have hj0 : j = k := by omega
                  rw [hj0] at hany
                  have hz := fkE4 hc3 hc4 hany
                  refine wp_exit ?_
                  refine e_then (e_then (e_blk (?_)))
                  refine n_blk ?_
                  refine n_then ?_
                  refine rg ?_
                  refine st (y_add rfl rfl (by omega)) ?_
                  refine st (mvI rfl) ?_
                  refine rg_end ?_
                  exact n_then ⟨k + 1, _, rfl, same_lk rfl (same_hav rfl (same_lk rfl (same_hav rfl (same_lk rfl (same_h0))))), ⟨rfl, trivial⟩, ⟨hlp0, by omega, newGo_step hc2 hgo hz⟩, by first | omega | (dsimp only; omega)⟩
        ·
          try simp only [decide_eq_true_eq, decide_eq_false_iff_not, Bool.not_eq_true', Bool.not_eq_false', Bool.and_eq_true, Bool.or_eq_true, Bool.or_eq_false_iff, Bool.cond_true_right, Bool.cond_false_right, Bool.cond_true_left, Bool.cond_false_left, ne_eq, Decidable.not_not, bne_iff_ne, beq_iff_eq, beq_eq_false_iff_ne, Bool.not_true, Bool.not_false] at hc2
          refine wp_exit ?_
          refine e_then (e_then (e_blk (?_)))
          refine n_then ?_
          refine cut (γ := Nat × Option Addr × Nat × Option Addr × Nat × Nat × Nat) [10, 87, 88, 89, 90, 91, 92] (fun ⟨b, ar, cr, a2, c2, l2, h2⟩ => [(10, .pointer (some ⟨b, 0, none⟩))]) (fun ⟨b, ar, cr, a2, c2, l2, h2⟩ w_ => Ext w5 w_ ∧ Blk w_ b [.slice ar m cr, .slice a2 fl.length c2] ∧ Ow 64 encRs 4 w.heap.size w_.heap.size w_ ar cr (List.replicate m (⟨0, 0, 0, false⟩ : Rs)) ∧ Sl encFk 3 l2 h2 w_ a2 fl ∧ w.heap.size ≤ l2 ∧ h2 ≤ w_.heap.size ∧ w.heap.size ≤ b ∧ b < w_.heap.size ∧ (b < blk ar ∨ hi1 ar ≤ b) ∧ (h2 ≤ blk ar ∨ hi1 ar ≤ l2)) ?_ ?_
          ·
            have hcut := Out.refl 0 0 w5
            refine rgP 4 (fun w_ => Ext w5 w_) (fun i => Nat.beq i 1 || Nat.beq i 3) (.step 0 (.step 2 (.fork 1 (.step 3 (.done)) (.fork 3 (.step 1 (.done)) (.last))))) mixed (by kernel_rfl) ?_
            intro w39 ho40 hs41
            refine ⟨ho40, ?_⟩
            have hx42 := ho40
            refine p_step rfl ?_
            refine tn rfl (fun _ hG => mvI rfl) ?_
            refine t_end ?_
            refine p_step rfl ?_
            refine tn rfl (fun _ hG => mvS rfl) ?_
            refine t_end ?_
            refine p_fork ?_ ?_
            ·
              refine p_step rfl ?_
              refine td rfl (d_make (m := m) (lo := w.heap.size) (enc := encRs) (e0 := (⟨0, 0, 0, false⟩ : Rs)) sl59 info64 (fun _ => rfl) rfl rfl rfl (by omega) (by unfold maxLen; omega) (by omega) ?_)
              intro bm w43 hbbm hs45 ho44 hm_
              have hx47 := hx42.step ho44 (.inl (Nat.le_refl _))
              have hz48 := ho44.size
              refine ⟨hx47, ?_⟩
              refine t_end ?_
              refine p_step rfl ?_
              refine tc rfl cl34 (clone_Fk_ok _ _ _ _ _ _ (hF.ext hx47) (by omega)) rfl ?_
              rintro v53 w49 ⟨a2, c2, rfl, hcl, ho50⟩
              have hx54 := hx47.step ho50 (.inl (Nat.le_refl _))
              have hz55 := ho50.size
              replace hm_ := hm_.ext ho50
              refine ⟨hx54, ?_⟩
              refine t_end ?_
              refine p_done ?_
              have hz56 := hx54.size
              replace hF := hF.ext hx54
              replace hE := hE.step hx54 (.inl (Nat.le_refl _))
              replace hcut := hcut.step hx54 (.inl (Nat.le_refl _))
              refine st (y_build (bld62_0_1 _ _ _ _ _ _ _) rfl) ?_
              refine sd (d_boxA rfl ?_)
              intro bx w57 hbbx hs59 ho58 hbx
              have hz60 := ho58.size
              replace hF := hF.ext ho58
              replace hE := hE.step ho58 (.inl (Nat.le_refl _))
              replace hcut := hcut.step ho58 (.inl (Nat.le_refl _))
              replace hm_ := hm_.ext ho58
              replace hcl := hcl.ext ho58
              refine st (asP rfl) ?_
              refine rg_end ?_
              exact n_then ⟨(bx, some ⟨bm, 0, none⟩, m, a2, c2, _, _), _, rfl, same_lk rfl (same_rfl), ⟨rfl, trivial⟩, ⟨hcut, hbx, hm_.wide (by omega), hcl.sl, by omega, by omega, by omega, by omega, by first | omega | (simp only [blk_some, hi1_some] at *; omega), by first | omega | (simp only [blk_some, hi1_some] at *; omega)⟩⟩
            refine p_fork ?_ ?_
            ·
              refine p_step rfl ?_
              refine tc rfl cl34 (clone_Fk_ok _ _ _ _ _ _ (hF.ext hx42) (by omega)) rfl ?_
              rintro v65 w61 ⟨a2, c2, rfl, hcl, ho62⟩
              have hx66 := hx42.step ho62 (.inl (Nat.le_refl _))
              have hz67 := ho62.size
              refine ⟨hx66, ?_⟩
              refine t_end ?_
              refine p_step rfl ?_
              refine td rfl (d_make (m := m) (lo := w.heap.size) (enc := encRs) (e0 := (⟨0, 0, 0, false⟩ : Rs)) sl59 info64 (fun _ => rfl) rfl rfl rfl (by omega) (by unfold maxLen; omega) (by omega) ?_)
              intro bm w68 hbbm hs70 ho69 hm_
              have hx72 := hx66.step ho69 (.inl (Nat.le_refl _))
              have hz73 := ho69.size
              replace hcl := hcl.ext ho69
              refine ⟨hx72, ?_⟩
              refine t_end ?_
              refine p_done ?_
              have hz74 := hx72.size
              replace hF := hF.ext hx72
              replace hE := hE.step hx72 (.inl (Nat.le_refl _))
              replace hcut := hcut.step hx72 (.inl (Nat.le_refl _))
              refine st (y_build (bld62_0_1 _ _ _ _ _ _ _) rfl) ?_
              refine sd (d_boxA rfl ?_)
              intro bx w75 hbbx hs77 ho76 hbx
              have hz78 := ho76.size
              replace hF := hF.ext ho76
              replace hE := hE.step ho76 (.inl (Nat.le_refl _))
              replace hcut := hcut.step ho76 (.inl (Nat.le_refl _))
              replace hcl := hcl.ext ho76
              replace hm_ := hm_.ext ho76
              refine st (asP rfl) ?_
              refine rg_end ?_
              exact n_then ⟨(bx, some ⟨bm, 0, none⟩, m, a2, c2, _, _), _, rfl, same_lk rfl (same_rfl), ⟨rfl, trivial⟩, ⟨hcut, hbx, hm_.wide (by omega), hcl.sl, by omega, by omega, by omega, by omega, by first | omega | (simp only [blk_some, hi1_some] at *; omega), by first | omega | (simp only [blk_some, hi1_some] at *; omega)⟩⟩
            exact p_last
          ·
            rintro ⟨b, ar, cr, a2, c2, l2, h2⟩ hav_ w79 ⟨ho80, hb, hr, hf, hl2, hh2, hlb, hbh, hd1, hd2⟩
            have hz81 := ho80.size
            replace hF := hF.ext ho80
            replace hE := hE.step ho80 (.inl (Nat.le_refl _))
            refine wp_seq ?_
            refine wp_seq ?_
            refine rg ?_
            refine st (mvP rfl) ?_
            refine st (y_nil rfl) ?_
            refine st (y_fld fld62_0 rfl) ?_
            refine st (y_lb hb na59 rfl rfl) ?_
            refine st (y_len Try.underlying59 rfl) ?_
            refine st (mvI rfl) ?_
            refine rg_end ?_
            refine n_then ?_
            refine wp_block ?_
            have hrn0 := hr.rng
            refine lp (γ := Nat × List Rs) [11, 98, 99, 100, 101, 102, 103, 104, 105, 106, 107, 108] (fun ⟨k, R⟩ => [(98, .int .i64 (k : Int))]) (fun ⟨k, R⟩ w_ => Out (blk ar) (hi1 ar) w79 w_ ∧ k ≤ m ∧ R.length = m ∧ (∀ p : Nat, p < k → el R p = ⟨-1, 0, 0, false⟩) ∧ Ow 64 encRs 4 w.heap.size w_.heap.size w_ ar cr R) (fun ⟨k, R⟩ => m - k) (0, List.replicate m ⟨0, 0, 0, false⟩) ⟨rfl, trivial⟩ ⟨Out.refl _ _ _, by omega, by simp, fun p hp => by omega, hr⟩ ?_
            rintro ⟨k, R⟩ hav_ w82 ⟨ho83, hk, hRl, hfil, hr⟩
            have hlp2 := ho83
            have hz84 := ho83.size
            replace hF := hF.out ho83 (by first | omega | (simp only [blk_some, hi1_some] at *; omega))
            replace hE := hE.step ho83 (by first | omega | (simp only [blk_some, hi1_some] at *; omega))
            replace hb := hb.out ho83 (by first | omega | (simp only [blk_some, hi1_some] at *; omega))
            replace hf := hf.out ho83 (by first | omega | (simp only [blk_some, hi1_some] at *; omega))
            refine wp_seq ?_
            refine rg ?_
            refine st (y_lss rfl rfl) ?_
            refine rg_end ?_
            refine n_then ?_
            refine wp_seq ?_
            refine cnd rfl (fun hc7 => ?_) (fun hc7 => ?_)
            ·
              try simp only [decide_eq_true_eq, decide_eq_false_iff_not, Bool.not_eq_true', Bool.not_eq_false', Bool.and_eq_true, Bool.or_eq_true, Bool.or_eq_false_iff, Bool.cond_true_right, Bool.cond_false_right, Bool.cond_true_left, Bool.cond_false_left, ne_eq, Decidable.not_not, bne_iff_ne, beq_iff_eq, beq_eq_false_iff_ne, Bool.not_true, Bool.not_false] at hc7
              refine wp_skip ?_
              refine n_then ?_
              refine wp_seq ?_
              refine wp_block ?_
              refine wp_seq ?_
              refine rg ?_
              refine st (mvI rfl) ?_
              refine st (asI rfl) ?_
              refine rg_end ?_
              refine n_then ?_
              refine rg ?_
              refine st (mvP rfl) ?_
              refine st (y_nil rfl) ?_
              refine st (y_fld fld62_0 rfl) ?_
              refine st (y_lb hb na59 rfl rfl) ?_
              refine st (mvI rfl) ?_
              refine st (y_build (bld64_0_2 _ _ _) rfl) ?_
              refine st (y_ix hr.sl sl59 rfl (hRl.symm) rfl (by omega) (by omega)) ?_
              refine sd0 (d_sw (e' := (⟨-1, 0, 0, false⟩ : Rs)) hr sz64 rfl rfl rfl (by omega) (by omega) ?_)
              intro w85 hs87 ho86 hr'
              have hrhr := hr.rng
              clear hr; have hr := hr'; clear hr'
              have hz88 := ho86.size
              replace hF := hF.out ho86 (by first | omega | (simp only [blk_some, hi1_some] at *; omega))
              replace hE := hE.step ho86 (by first | omega | (simp only [blk_some, hi1_some] at *; omega))
              replace hb := hb.out ho86 (by first | omega | (simp only [blk_some, hi1_some] at *; omega))
              replace hf := hf.out ho86 (by first | omega | (simp only [blk_some, hi1_some] at *; omega))
              replace hlp2 := hlp2.step ho86 (by first | omega | (simp only [blk_some, hi1_some] at *; omega))
              refine rg_end ?_
              refine n_blk ?_
              refine n_then ?_
              refine rg ?_
              refine st (y_add rfl rfl (by omega)) ?_
              refine st (mvI rfl) ?_
              refine rg_end ?_
              exact n_then ⟨(k + 1, _), _, rfl, same_lk rfl (same_h0), ⟨rfl, trivial⟩, ⟨hlp2, by omega, by simp [hRl], fill_stepG hRl (by omega) hfil, hr.wide (by omega)⟩, by first | omega | (dsimp only; omega)⟩
            ·
              try simp only [decide_eq_true_eq, decide_eq_false_iff_not, Bool.not_eq_true', Bool.not_eq_false', Bool.and_eq_true, Bool.or_eq_true, Bool.or_eq_false_iff, Bool.cond_true_right, Bool.cond_false_right, Bool.cond_true_left, Bool.cond_false_left, ne_eq, Decidable.not_not, bne_iff_ne, beq_iff_eq, beq_eq_false_iff_ne, Bool.not_true, Bool.not_false] at hc7
              refine wp_exit ?_
              refine e_then (e_then (e_blk (?_)))
              refine n_then ?_
              refine wp_seq ?_
              refine rg ?_
              refine st (mvP rfl) ?_
              refine st (asP rfl) ?_
              refine st (asI rfl) ?_
              refine rg_end ?_
              refine n_then ?_
              refine wp_ret ?_
              refine ret2 (v := (.pointer _)) (v' := (.int .i64 _)) Try.results10 rfl rfl ?_
              have hkm : k = m := by omega
              subst hkm
              have hR := fill_all hRl hfil
              subst hR
              exact ⟨_, 0, rfl, (hne.trans (newGo_end hc2 hgo)).symm, fun h => absurd rfl h, fun _ => ⟨b, rfl, ⟨ar, cr, a2, c2, l2, h2, by simpa [initS] using hb, by simpa [initS] using hr, hf, hl2, by omega, hlb, by omega, Nat.le_refl _, hd1, hd2⟩⟩, hE⟩
end Go.Proofs.Ytciljdhihnnfiaa
