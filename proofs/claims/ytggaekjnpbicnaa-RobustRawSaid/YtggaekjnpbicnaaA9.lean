/-
  Walks of the functions, printed by a program out of the code and the loops' relations.
-/
import Derived.Test.YtggaekjnpbicnaaWkD
import Derived.Test.YtggaekjnpbicnaaProg
import Derived.KernelRfl
import Derived.Test.YtggaekjnpbicnaaA8
namespace Go.Proofs.Ytggaekjnpbicnaa
open Go.Wk Go.RowKit
set_option linter.unusedVariables false
set_option linter.unusedSimpArgs false
theorem cl16 : Callable Try.prog 16 := ⟨Try.call16⟩
theorem cl17 : Callable Try.prog 17 := ⟨Try.call17⟩

theorem LeastLoop.take {N : Net} {t : List Int} {k : Nat} {d v e : Int} {b ok : Bool} (h : LeastLoop N t k d b) (hr : DRes N t k k v ok e) (h1 : ok = true) (hc : b = false ∨ v < d) : LeastLoop N t (k + 1) v true := by
  have := h.some (hr.ch h1) (fun q hq => (hr.lst q hq).2)
  rwa [if_pos hc] at this
theorem LeastLoop.leave {N : Net} {t : List Int} {k : Nat} {d v e : Int} {b ok : Bool} (h : LeastLoop N t k d b) (hr : DRes N t k k v ok e) (hc : ¬ (ok = true ∧ (b = false ∨ v < d))) : LeastLoop N t (k + 1) d b := by
  by_cases h1 : ok = true
  · have := h.some (hr.ch h1) (fun q hq => (hr.lst q hq).2)
    rw [if_neg (fun h2 => hc ⟨h1, h2⟩)] at this
    have hb : b = true := by
      cases b with
      | true => rfl
      | false => exact absurd ⟨h1, .inl rfl⟩ hc
    rw [hb]; exact this
  · exact h.none fun q hq => h1 (hr.lst q hq).1

set_option maxRecDepth 100000 in
theorem law22_RobustLoopIsLeast_ok (a0 : Option Addr) (c0 : Nat) (l0 : List Int) (a1 : Option Addr) (c1 : Nat) (l1 : List Int) (w : World) (hL0 : Ints 0 w.heap.size w a0 l0) (hl0 : (l0.length : Int) ≤ 9223372036854775807) (hL1 : Ints 0 w.heap.size w a1 l1) (hl1 : (l1.length : Int) ≤ 9223372036854775807)  : Cal Try.prog 4 [.slice a0 l0.length c0, .slice a1 l1.length c1] w (fun v w' => v = .bool true ∧ Ext w w') := by
  have hE : Out 0 0 w w := Out.refl _ _ w
  refine enter Try.func4 rfl Try.ntmps4 rfl ?_
  refine wp_seq ?_
  refine rg ?_
  refine st (asB rfl) ?_
  refine rg_end ?_
  refine n_then ?_
  refine wp_seq ?_
  refine rg ?_
  refine st (mvS rfl) ?_
  refine sc cl11 (law22_wide_ok _ _ _ _ _ _ hL0 hl0) rfl ?_
  rintro v5 w1 ⟨N, A, rfl, hwd, hN, ho2⟩
  obtain ⟨hok, hp2, hp9, hev1, hev5, hac8, hmnn⟩ := hwd.1
  have hz6 := ho2.size
  replace hL0 := hL0.ext ho2
  replace hL1 := hL1.ext ho2
  replace hE := hE.step ho2 (.inl (Nat.le_refl _))
  refine sd (d_allocA zer26 ?_)
  intro bl10 w7 hbbl10 hs9 ho8 hbl10
  have hz11 := ho8.size
  replace hL0 := hL0.ext ho8
  replace hL1 := hL1.ext ho8
  replace hE := hE.step ho8 (.inl (Nat.le_refl _))
  replace hN := hN.ext ho8
  refine sd0 (d_stN hbl10 rfl rfl sz26 rfl rfl ?_)
  intro w12 hs14 ho13 hbl10'
  clear hbl10; have hbl10 := hbl10'; clear hbl10'
  have hz15 := ho13.size
  replace hL0 := hL0.out ho13 (by first | omega | (simp only [blk_some, hi1_some] at *; omega))
  replace hL1 := hL1.out ho13 (by first | omega | (simp only [blk_some, hi1_some] at *; omega))
  replace hE := hE.step ho13 (by first | omega | (simp only [blk_some, hi1_some] at *; omega))
  replace hN := hN.out ho13 (by first | omega | (simp only [blk_some, hi1_some] at *; omega))
  refine rg_end ?_
  refine n_then ?_
  refine wp_seq ?_
  refine rg ?_
  refine st (y_lbN hbl10 agg26 rfl) ?_
  refine st (mvS rfl) ?_
  refine sc cl12 (keep_Times_ok N A _ _ _ _ _ _ _ _ hN hL1 hl1 (by omega) (by omega)) rfl ?_
  rintro v20 w16 ⟨ax, cx, x, rfl, hT, hxl, hxr, ho17⟩
  obtain ⟨hg, hfe⟩ := wide_feas hwd hxl hxr
  have hz21 := ho17.size
  replace hL0 := hL0.ext ho17
  replace hL1 := hL1.ext ho17
  replace hE := hE.step ho17 (.inl (Nat.le_refl _))
  replace hN := hN.ext ho17
  replace hbl10 := hbl10.ext ho17
  refine st (asS rfl) ?_
  refine rg_end ?_
  refine n_then ?_
  refine wp_seq ?_
  refine rg ?_
  refine st (asI rfl) ?_
  refine st (asB rfl) ?_
  refine rg_end ?_
  refine n_then ?_
  refine wp_seq ?_
  refine wp_seq ?_
  refine rg ?_
  refine st (y_fld fld26_1 rfl) ?_
  refine st (y_lb hbl10 na23 rfl rfl) ?_
  refine st (y_len Try.underlying23 rfl) ?_
  refine st (mvI rfl) ?_
  refine rg_end ?_
  refine n_then ?_
  refine wp_block ?_
  refine lp (γ := Nat × Int × Bool) [4, 7, 8, 9, 10, 11, 12, 24, 25, 26, 27, 28, 29, 30, 31, 32, 33, 34, 35, 36, 37, 38, 39, 40, 41, 42, 43, 44, 45, 46, 47, 48, 49] (fun ⟨k, d, b⟩ => [(24, .int .i64 (k : Int)), (7, .int .i64 d), (8, .bool b)]) (fun ⟨k, d, b⟩ w_ => Ext w16 w_ ∧ (k : Int) ≤ N.evs.length ∧ LeastLoop N x k d b) (fun ⟨k, d, b⟩ => N.evs.length - k) (0, 0, false) ⟨rfl, rfl, rfl, trivial⟩ ⟨Out.refl _ _ _, by omega, LeastLoop.start⟩ ?_
  rintro ⟨k, d, b⟩ hav_ w22 ⟨ho23, hk, hlk⟩
  have hlp0 := ho23
  have hz24 := ho23.size
  replace hL0 := hL0.ext ho23
  replace hL1 := hL1.ext ho23
  replace hE := hE.step ho23 (.inl (Nat.le_refl _))
  replace hN := hN.ext ho23
  replace hbl10 := hbl10.ext ho23
  replace hT := hT.ext ho23
  refine wp_seq ?_
  refine rg ?_
  refine st (y_lss rfl rfl) ?_
  refine rg_end ?_
  refine n_then ?_
  refine wp_seq ?_
  refine cnd rfl (fun hc0 => ?_) (fun hc0 => ?_)
  ·
    try simp only [decide_eq_true_eq, decide_eq_false_iff_not, Bool.not_eq_true', Bool.not_eq_false', Bool.and_eq_true, Bool.or_eq_true, Bool.or_eq_false_iff, Bool.cond_true_right, Bool.cond_false_right, Bool.cond_true_left, Bool.cond_false_left, ne_eq, Decidable.not_not, bne_iff_ne, beq_iff_eq, beq_eq_false_iff_ne, Bool.not_true, Bool.not_false] at hc0
    refine wp_skip ?_
    refine n_then ?_
    refine wp_seq ?_
    refine wp_block ?_
    refine wp_seq ?_
    refine rg ?_
    refine st (mvI rfl) ?_
    refine st (asI rfl) ?_
    refine rg_end ?_
    refine n_then ?_
    refine wp_seq ?_
    refine rg ?_
    refine st (y_lbN hbl10 agg26 rfl) ?_
    refine st (mvS rfl) ?_
    refine st (mvI rfl) ?_
    refine st (mvI rfl) ?_
    refine sc cl14 (robust_Distance_ok N A _ _ x _ _ _ _ _ _ _ hN hT) rfl ?_
    rintro v29 w25 ⟨v, ok, e, rfl, hr, ho26⟩
    replace hr := hr.get hfe (by omega) (by omega) (by omega) (by omega)
    obtain rfl := hr.e0
    have hz30 := ho26.size
    replace hL0 := hL0.ext ho26
    replace hL1 := hL1.ext ho26
    replace hE := hE.step ho26 (.inl (Nat.le_refl _))
    replace hN := hN.ext ho26
    replace hbl10 := hbl10.ext ho26
    replace hT := hT.ext ho26
    replace hlp0 := hlp0.step ho26 (.inl (Nat.le_refl _))
    refine st (mvT rfl) ?_
    refine st (y_ext rfl rfl) ?_
    refine st (y_ext rfl rfl) ?_
    refine st (y_ext rfl rfl) ?_
    refine st (asI rfl) ?_
    refine st (asB rfl) ?_
    refine st (asI rfl) ?_
    refine rg_end ?_
    refine n_then ?_
    refine wp_seq ?_
    refine wp_seq ?_
    refine rg ?_
    refine st (mvI rfl) ?_
    refine st (y_neq rfl rfl) ?_
    refine rg_end ?_
    refine n_then ?_
    refine cnd rfl (fun hc1 => absurd hc1 (by decide)) (fun hc1 => ?_)
    refine wp_skip ?_
    refine n_then ?_
    refine cut (γ := Unit) [38, 39, 40, 41, 42, 43, 44, 45, 46, 47] (fun _ => [(47, .bool (decide (ok = true ∧ (b = false ∨ v < d))))]) (fun _ w_ => Ext w25 w_ ∧ True) ?_ ?_
    ·
      have hcut := Out.refl 0 0 w25
      refine rg ?_
      refine st (mvB rfl) ?_
      refine st (mvB rfl) ?_
      refine gspL 39 rfl (fun hg31 => ?_) (fun hg31 => ?_)
      ·
        have hg31n := hg31; try simp only [decide_eq_true_eq, decide_eq_false_iff_not, Bool.not_eq_true', Bool.not_eq_false', Bool.and_eq_true, Bool.or_eq_true, Bool.or_eq_false_iff, Bool.cond_true_right, Bool.cond_false_right, Bool.cond_true_left, Bool.cond_false_left, ne_eq, Decidable.not_not, bne_iff_ne, beq_iff_eq, beq_eq_false_iff_ne, Bool.not_true, Bool.not_false] at hg31n
        refine stg rfl rfl hg31 (mvB rfl) ?_
        refine stg rfl rfl hg31 (y_not rfl) ?_
        refine stg rfl rfl hg31 (mvB rfl) ?_
        refine gspL 42 rfl (fun hg32 => ?_) (fun hg32 => ?_)
        ·
          have hg32n := hg32; try simp only [decide_eq_true_eq, decide_eq_false_iff_not, Bool.not_eq_true', Bool.not_eq_false', Bool.and_eq_true, Bool.or_eq_true, Bool.or_eq_false_iff, Bool.cond_true_right, Bool.cond_false_right, Bool.cond_true_left, Bool.cond_false_left, ne_eq, Decidable.not_not, bne_iff_ne, beq_iff_eq, beq_eq_false_iff_ne, Bool.not_true, Bool.not_false] at hg32n
          refine sts rfl rfl hg32 ?_
          refine sts rfl rfl hg32 ?_
          refine sts rfl rfl hg32 ?_
          refine stg rfl rfl hg31 (y_pickT rfl hg32 (v := .bool _) rfl) ?_
          refine st (y_pickT rfl hg31 (v := .bool _) rfl) ?_
          refine rg_end ?_
          exact n_then ⟨(), _, rfl, same_lk rfl (same_rfl), ⟨vb (by simp_all), trivial⟩, ⟨hcut, trivial⟩⟩
        ·
          have hg32n := hg32; try simp only [decide_eq_true_eq, decide_eq_false_iff_not, Bool.not_eq_true', Bool.not_eq_false', Bool.and_eq_true, Bool.or_eq_true, Bool.or_eq_false_iff, Bool.cond_true_right, Bool.cond_false_right, Bool.cond_true_left, Bool.cond_false_left, ne_eq, Decidable.not_not, bne_iff_ne, beq_iff_eq, beq_eq_false_iff_ne, Bool.not_true, Bool.not_false] at hg32n
          refine stg rfl rfl hg32 (mvI rfl) ?_
          refine stg rfl rfl hg32 (mvI rfl) ?_
          refine stg rfl rfl hg32 (y_lss rfl rfl) ?_
          refine stg rfl rfl hg31 (y_pickF rfl hg32 (v := .bool _) rfl) ?_
          refine st (y_pickT rfl hg31 (v := .bool _) rfl) ?_
          refine rg_end ?_
          exact n_then ⟨(), _, rfl, same_lk rfl (same_rfl), ⟨vb (by simp_all), trivial⟩, ⟨hcut, trivial⟩⟩
      ·
        have hg31n := hg31; try simp only [decide_eq_true_eq, decide_eq_false_iff_not, Bool.not_eq_true', Bool.not_eq_false', Bool.and_eq_true, Bool.or_eq_true, Bool.or_eq_false_iff, Bool.cond_true_right, Bool.cond_false_right, Bool.cond_true_left, Bool.cond_false_left, ne_eq, Decidable.not_not, bne_iff_ne, beq_iff_eq, beq_eq_false_iff_ne, Bool.not_true, Bool.not_false] at hg31n
        refine sts rfl rfl hg31 ?_
        refine sts rfl rfl hg31 ?_
        refine sts rfl rfl hg31 ?_
        refine stu rfl rfl ?_
        refine stu rfl rfl ?_
        refine stu rfl rfl ?_
        refine sts rfl rfl hg31 ?_
        refine st (y_pickF rfl hg31 (v := .bool _) rfl) ?_
        refine rg_end ?_
        exact n_then ⟨(), _, rfl, same_lk rfl (same_rfl), ⟨vb (by simp_all), trivial⟩, ⟨hcut, trivial⟩⟩
    ·
      rintro _ hav_ w33 ⟨ho34, _⟩
      have hz35 := ho34.size
      replace hL0 := hL0.ext ho34
      replace hL1 := hL1.ext ho34
      replace hE := hE.step ho34 (.inl (Nat.le_refl _))
      replace hN := hN.ext ho34
      replace hbl10 := hbl10.ext ho34
      replace hT := hT.ext ho34
      replace hlp0 := hlp0.step ho34 (.inl (Nat.le_refl _))
      refine cnd rfl (fun hc2 => ?_) (fun hc2 => ?_)
      ·
        rw [decide_eq_true_eq] at hc2
        have hlk := hlk.take hr hc2.1 hc2.2
        refine rg ?_
        refine st (mvI rfl) ?_
        refine st (asI rfl) ?_
        refine st (asB rfl) ?_
        refine rg_end ?_
        refine n_blk ?_
        refine n_then ?_
        refine rg ?_
        refine st (y_add rfl rfl (by omega)) ?_
        refine st (mvI rfl) ?_
        refine rg_end ?_
        exact n_then ⟨(k + 1, _, _), _, rfl, same_lk rfl (same_hav rfl (same_lk rfl (same_h0))), ⟨rfl, rfl, rfl, trivial⟩, ⟨hlp0, by omega, hlk⟩, by first | omega | (dsimp only; omega)⟩
      ·
        rw [decide_eq_false_iff_not] at hc2
        have hlk := hlk.leave hr hc2
        refine wp_skip ?_
        refine n_blk ?_
        refine n_then ?_
        refine rg ?_
        refine st (y_add rfl rfl (by omega)) ?_
        refine st (mvI rfl) ?_
        refine rg_end ?_
        exact n_then ⟨(k + 1, _, _), _, rfl, same_lk rfl (same_hav rfl (same_lk rfl (same_h0))), ⟨rfl, rfl, rfl, trivial⟩, ⟨hlp0, by omega, hlk⟩, by first | omega | (dsimp only; omega)⟩
  ·
    try simp only [decide_eq_true_eq, decide_eq_false_iff_not, Bool.not_eq_true', Bool.not_eq_false', Bool.and_eq_true, Bool.or_eq_true, Bool.or_eq_false_iff, Bool.cond_true_right, Bool.cond_false_right, Bool.cond_true_left, Bool.cond_false_left, ne_eq, Decidable.not_not, bne_iff_ne, beq_iff_eq, beq_eq_false_iff_ne, Bool.not_true, Bool.not_false] at hc0
    have hkn : k = N.evs.length := by omega
    subst hkn
    refine wp_exit ?_
    refine e_then (e_then (e_blk (?_)))
    refine n_then ?_
    refine wp_seq ?_
    refine rg ?_
    refine st (y_lbN hbl10 agg26 rfl) ?_
    refine st (mvS rfl) ?_
    refine sc cl16 (robust_Loop_ok N A _ _ x _ _ _ _ _ hN hT) rfl ?_
    rintro v40 w36 ⟨v2, ok2, e2, rfl, hlr, ho37⟩
    unfold LoopRes at hlr
    rw [if_neg (by simp [hfe])] at hlr
    obtain ⟨rfl, hll⟩ := hlr
    obtain ⟨rfl, rfl⟩ := hll.uniq hlk
    have hz41 := ho37.size
    replace hL0 := hL0.ext ho37
    replace hL1 := hL1.ext ho37
    replace hE := hE.step ho37 (.inl (Nat.le_refl _))
    replace hN := hN.ext ho37
    replace hbl10 := hbl10.ext ho37
    replace hT := hT.ext ho37
    refine st (mvT rfl) ?_
    refine st (y_ext rfl rfl) ?_
    refine st (y_ext rfl rfl) ?_
    refine st (y_ext rfl rfl) ?_
    refine st (asI rfl) ?_
    refine st (asB rfl) ?_
    refine st (asI rfl) ?_
    refine rg_end ?_
    refine n_then ?_
    refine wp_seq ?_
    refine rg ?_
    refine sc cl15 (law22_awake_ok _) rfl ?_
    rintro v46 w42 ⟨rfl, ho43⟩
    have hz47 := ho43.size
    replace hL0 := hL0.ext ho43
    replace hL1 := hL1.ext ho43
    replace hE := hE.step ho43 (.inl (Nat.le_refl _))
    replace hN := hN.ext ho43
    replace hbl10 := hbl10.ext ho43
    replace hT := hT.ext ho43
    refine st (mvB rfl) ?_
    refine stg rfl rfl rfl (mvI rfl) ?_
    refine stg rfl rfl rfl (y_eql rfl rfl) ?_
    refine st (y_pickT rfl rfl (v := .bool _) rfl) ?_
    refine st (mvB rfl) ?_
    refine stg rfl rfl rfl (mvB rfl) ?_
    refine stg rfl rfl rfl (mvB rfl) ?_
    refine stg rfl rfl rfl (y_eqlB rfl rfl Try.underlying4) ?_
    refine st (y_pickT rfl rfl (v := .bool _) rfl) ?_
    refine st (mvB rfl) ?_
    refine stg rfl rfl (by simp) (mvI rfl) ?_
    refine stg rfl rfl (by simp) (mvI rfl) ?_
    refine stg rfl rfl (by simp) (y_eql rfl rfl) ?_
    refine st (y_pickT rfl (by simp) (v := .bool _) rfl) ?_
    refine st (asB rfl) ?_
    refine rg_end ?_
    refine n_then ?_
    refine wp_ret ?_
    refine ret1 (v := (.bool _)) Try.results4 rfl ?_
    exact ⟨vb (by simp), hE⟩

set_option maxRecDepth 100000 in
theorem law22_RobustMoreDelay_ok (a0 : Option Addr) (c0 : Nat) (l0 : List Int) (a1 : Option Addr) (c1 : Nat) (l1 : List Int) (ev dl mo : Int) (w : World) (hL0 : Ints 0 w.heap.size w a0 l0) (hl0 : (l0.length : Int) ≤ 9223372036854775807) (hL1 : Ints 0 w.heap.size w a1 l1) (hl1 : (l1.length : Int) ≤ 9223372036854775807)  : Cal Try.prog 7 [.slice a0 l0.length c0, .slice a1 l1.length c1, .int .i64 ev, .int .i64 dl, .int .i64 mo] w (fun v w' => v = .bool true ∧ Ext w w') := by
  have hE : Out 0 0 w w := Out.refl _ _ w
  refine enter Try.func7 rfl Try.ntmps7 rfl ?_
  refine wp_seq ?_
  refine rg ?_
  refine st (asB rfl) ?_
  refine rg_end ?_
  refine n_then ?_
  refine wp_seq ?_
  refine rg ?_
  refine st (mvS rfl) ?_
  refine sc cl11 (law22_wide_ok _ _ _ _ _ _ hL0 hl0) rfl ?_
  rintro v5 w1 ⟨N, A, rfl, hwd, hN, ho2⟩
  obtain ⟨hok, hp2, hp9, hev1, hev5, hac8, hmnn⟩ := hwd.1
  have hz6 := ho2.size
  replace hL0 := hL0.ext ho2
  replace hL1 := hL1.ext ho2
  replace hE := hE.step ho2 (.inl (Nat.le_refl _))
  refine sd (d_allocA zer26 ?_)
  intro bl10 w7 hbbl10 hs9 ho8 hbl10
  have hz11 := ho8.size
  replace hL0 := hL0.ext ho8
  replace hL1 := hL1.ext ho8
  replace hE := hE.step ho8 (.inl (Nat.le_refl _))
  replace hN := hN.ext ho8
  refine sd0 (d_stN hbl10 rfl rfl sz26 rfl rfl ?_)
  intro w12 hs14 ho13 hbl10'
  clear hbl10; have hbl10 := hbl10'; clear hbl10'
  have hz15 := ho13.size
  replace hL0 := hL0.out ho13 (by first | omega | (simp only [blk_some, hi1_some] at *; omega))
  replace hL1 := hL1.out ho13 (by first | omega | (simp only [blk_some, hi1_some] at *; omega))
  replace hE := hE.step ho13 (by first | omega | (simp only [blk_some, hi1_some] at *; omega))
  replace hN := hN.out ho13 (by first | omega | (simp only [blk_some, hi1_some] at *; omega))
  refine rg_end ?_
  refine n_then ?_
  refine wp_seq ?_
  refine rg ?_
  refine st (y_lbN hbl10 agg26 rfl) ?_
  refine st (mvS rfl) ?_
  refine sc cl12 (keep_Times_ok N A _ _ _ _ _ _ _ _ hN hL1 hl1 (by omega) (by omega)) rfl ?_
  rintro v20 w16 ⟨ax, cx, x, rfl, hT, hxl, hxr, ho17⟩
  obtain ⟨hg, hfe⟩ := wide_feas hwd hxl hxr
  have hz21 := ho17.size
  replace hL0 := hL0.ext ho17
  replace hL1 := hL1.ext ho17
  replace hE := hE.step ho17 (.inl (Nat.le_refl _))
  replace hN := hN.ext ho17
  replace hbl10 := hbl10.ext ho17
  refine st (asS rfl) ?_
  refine rg_end ?_
  refine n_then ?_
  refine wp_seq ?_
  have hev := pick_rng ev N.evs.length (by omega)
  have hdl := pick_rng dl 60 (by omega)
  have hmo := pick_rng mo 60 (by omega)
  refine rg ?_
  refine st (mvI rfl) ?_
  refine st (y_fld fld26_1 rfl) ?_
  refine st (y_lb hbl10 na23 rfl rfl) ?_
  refine st (y_len Try.underlying23 rfl) ?_
  refine sc cl13 (keep_Pick_ok _ _ _ (by omega) (by omega)) rfl ?_
  rintro v26 w22 ⟨rfl, ho23⟩
  have hz27 := ho23.size
  replace hL0 := hL0.ext ho23
  replace hL1 := hL1.ext ho23
  replace hE := hE.step ho23 (.inl (Nat.le_refl _))
  replace hN := hN.ext ho23
  replace hbl10 := hbl10.ext ho23
  replace hT := hT.ext ho23
  refine st (mvI rfl) ?_
  refine sc cl13 (keep_Pick_ok _ _ _ (by omega) (by omega)) rfl ?_
  rintro v32 w28 ⟨rfl, ho29⟩
  have hz33 := ho29.size
  replace hL0 := hL0.ext ho29
  replace hL1 := hL1.ext ho29
  replace hE := hE.step ho29 (.inl (Nat.le_refl _))
  replace hN := hN.ext ho29
  replace hbl10 := hbl10.ext ho29
  replace hT := hT.ext ho29
  refine st (mvI rfl) ?_
  refine sc cl13 (keep_Pick_ok _ _ _ (by omega) (by omega)) rfl ?_
  rintro v38 w34 ⟨rfl, ho35⟩
  have hz39 := ho35.size
  replace hL0 := hL0.ext ho35
  replace hL1 := hL1.ext ho35
  replace hE := hE.step ho35 (.inl (Nat.le_refl _))
  replace hN := hN.ext ho35
  replace hbl10 := hbl10.ext ho35
  replace hT := hT.ext ho35
  refine st (asI rfl) ?_
  refine st (asI rfl) ?_
  refine st (asI rfl) ?_
  refine rg_end ?_
  refine n_then ?_
  refine wp_seq ?_
  refine rg ?_
  refine st (y_lbN hbl10 agg26 rfl) ?_
  refine st (mvS rfl) ?_
  refine st (mvI rfl) ?_
  refine st (mvI rfl) ?_
  refine sc cl17 (robust_Spread_ok N A _ _ x _ _ _ _ _ _ _ hN hT) rfl ?_
  rintro v44 w40 ⟨ada, ca, a, e, rfl, ha, hSa, ho41⟩
  replace ha := ha.get hfe (by omega)
  obtain rfl := ha.e0
  have hal := ha.len
  have hz45 := ho41.size
  replace hL0 := hL0.ext ho41
  replace hL1 := hL1.ext ho41
  replace hE := hE.step ho41 (.inl (Nat.le_refl _))
  replace hN := hN.ext ho41
  replace hbl10 := hbl10.ext ho41
  replace hT := hT.ext ho41
  refine st (mvT rfl) ?_
  refine st (y_ext rfl rfl) ?_
  refine st (y_ext rfl rfl) ?_
  refine st (asS rfl) ?_
  refine st (asI rfl) ?_
  refine rg_end ?_
  refine n_then ?_
  refine wp_seq ?_
  refine rg ?_
  refine st (y_lbN hbl10 agg26 rfl) ?_
  refine st (mvS rfl) ?_
  refine st (mvI rfl) ?_
  refine st (mvI rfl) ?_
  refine st (mvI rfl) ?_
  refine st (y_add rfl rfl (by omega)) ?_
  refine sc cl17 (robust_Spread_ok N A _ _ x _ _ _ _ _ _ _ hN hT) rfl ?_
  rintro v50 w46 ⟨adb, cb, b, f, rfl, hb, hSb, ho47⟩
  replace hb := hb.get hfe (by omega)
  obtain rfl := hb.e0
  have hbl := hb.len
  have hz51 := ho47.size
  replace hL0 := hL0.ext ho47
  replace hL1 := hL1.ext ho47
  replace hE := hE.step ho47 (.inl (Nat.le_refl _))
  replace hN := hN.ext ho47
  replace hbl10 := hbl10.ext ho47
  replace hT := hT.ext ho47
  replace hSa := hSa.ext ho47
  refine st (mvT rfl) ?_
  refine st (y_ext rfl rfl) ?_
  refine st (y_ext rfl rfl) ?_
  refine st (asS rfl) ?_
  refine st (asI rfl) ?_
  refine rg_end ?_
  refine n_then ?_
  refine wp_seq ?_
  refine wp_seq ?_
  refine rg ?_
  refine st (mvI rfl) ?_
  refine st (y_neq rfl rfl) ?_
  refine st (mvB rfl) ?_
  refine stg rfl rfl rfl (mvI rfl) ?_
  refine stg rfl rfl rfl (y_neq rfl rfl) ?_
  refine st (y_pickF rfl rfl (v := .bool _) rfl) ?_
  refine st (mvB rfl) ?_
  refine stg rfl rfl rfl (mvS rfl) ?_
  refine stg rfl rfl rfl (y_len Try.underlying22 rfl) ?_
  refine stg rfl rfl rfl (mvS rfl) ?_
  refine stg rfl rfl rfl (y_len Try.underlying22 rfl) ?_
  refine stg rfl rfl rfl (y_neq rfl rfl) ?_
  refine st (y_pickF rfl rfl (v := .bool _) rfl) ?_
  refine rg_end ?_
  refine n_then ?_
  refine cnd rfl (fun hc0 => ?_) (fun hc0 => ?_)
  ·
    try simp only [decide_eq_true_eq, decide_eq_false_iff_not, Bool.not_eq_true', Bool.not_eq_false', Bool.and_eq_true, Bool.or_eq_true, Bool.or_eq_false_iff, Bool.cond_true_right, Bool.cond_false_right, Bool.cond_true_left, Bool.cond_false_left, ne_eq, Decidable.not_not, bne_iff_ne, beq_iff_eq, beq_eq_false_iff_ne, Bool.not_true, Bool.not_false] at hc0
    omega
  ·
    try simp only [decide_eq_true_eq, decide_eq_false_iff_not, Bool.not_eq_true', Bool.not_eq_false', Bool.and_eq_true, Bool.or_eq_true, Bool.or_eq_false_iff, Bool.cond_true_right, Bool.cond_false_right, Bool.cond_true_left, Bool.cond_false_left, ne_eq, Decidable.not_not, bne_iff_ne, beq_iff_eq, beq_eq_false_iff_ne, Bool.not_true, Bool.not_false] at hc0
    refine wp_skip ?_
    refine n_then ?_
    refine wp_seq ?_
    refine wp_seq ?_
    refine rg ?_
    refine st (mvS rfl) ?_
    refine st (y_len Try.underlying22 rfl) ?_
    refine st (mvI rfl) ?_
    refine rg_end ?_
    refine n_then ?_
    refine wp_block ?_
    refine lp (γ := Nat) [10, 17, 65, 66, 67, 68, 69, 70, 71, 72, 73, 74, 75, 76, 77, 78, 79, 80, 81, 82, 83, 84, 85, 86, 87, 88, 89, 90] (fun k => [(65, .int .i64 (k : Int))]) (fun k w_ => Ext w46 w_ ∧ (k : Int) ≤ a.length) (fun k => a.length - k) 0 ⟨rfl, trivial⟩ ⟨Out.refl _ _ _, by omega⟩ ?_
    rintro k hav_ w52 ⟨ho53, hk⟩
    have hlp0 := ho53
    have hz54 := ho53.size
    replace hL0 := hL0.ext ho53
    replace hL1 := hL1.ext ho53
    replace hE := hE.step ho53 (.inl (Nat.le_refl _))
    replace hN := hN.ext ho53
    replace hbl10 := hbl10.ext ho53
    replace hT := hT.ext ho53
    replace hSa := hSa.ext ho53
    replace hSb := hSb.ext ho53
    refine wp_seq ?_
    refine rg ?_
    refine st (y_lss rfl rfl) ?_
    refine rg_end ?_
    refine n_then ?_
    refine wp_seq ?_
    refine cnd rfl (fun hc1 => ?_) (fun hc1 => ?_)
    ·
      try simp only [decide_eq_true_eq, decide_eq_false_iff_not, Bool.not_eq_true', Bool.not_eq_false', Bool.and_eq_true, Bool.or_eq_true, Bool.or_eq_false_iff, Bool.cond_true_right, Bool.cond_false_right, Bool.cond_true_left, Bool.cond_false_left, ne_eq, Decidable.not_not, bne_iff_ne, beq_iff_eq, beq_eq_false_iff_ne, Bool.not_true, Bool.not_false] at hc1
      have hmore := ha.more hb hmo.1 hev.1 hev.2 (i := k) (by omega) (by omega)
      have hrng := ha.rng hdl.1 hev.1 hev.2 (i := k) (by omega) (by omega)
      refine wp_skip ?_
      refine n_then ?_
      refine wp_seq ?_
      refine wp_block ?_
      refine wp_seq ?_
      refine rg ?_
      refine st (mvI rfl) ?_
      refine st (asI rfl) ?_
      refine rg_end ?_
      refine n_then ?_
      refine wp_seq ?_
      refine rgD 20 (fun w_ => Ext w52 w_) (fun i => false) mixed (by kernel_rfl) ?_
      intro w55 ho56 hs57
      refine ⟨ho56, ?_⟩
      have hx58 := ho56
      refine tn rfl (fun _ hG => mvS rfl) ?_
      refine tn rfl (fun _ hG => mvI rfl) ?_
      refine tn rfl (fun _ hG => y_ix (hSb.ext hG) sl22 rfl (rfl) rfl (by omega) (by omega)) ?_
      refine tn rfl (fun _ hG => y_le (hSb.ext hG) na3 rfl (by omega) (by omega) rfl) ?_
      refine tn rfl (fun _ hG => mvS rfl) ?_
      refine tn rfl (fun _ hG => mvI rfl) ?_
      refine tn rfl (fun _ hG => y_ix (hSa.ext hG) sl22 rfl (rfl) rfl (by omega) (by omega)) ?_
      refine tn rfl (fun _ hG => y_le (hSa.ext hG) na3 rfl (by omega) (by omega) rfl) ?_
      refine tn rfl (fun _ hG => y_lss rfl rfl) ?_
      refine tn rfl (fun _ hG => mvB rfl) ?_
      refine gspT 77 rfl (fun hg59 => ?_) (fun hg59 => ?_)
      ·
        have hg59n := hg59; try simp only [decide_eq_true_eq, decide_eq_false_iff_not, Bool.not_eq_true', Bool.not_eq_false', Bool.and_eq_true, Bool.or_eq_true, Bool.or_eq_false_iff, Bool.cond_true_right, Bool.cond_false_right, Bool.cond_true_left, Bool.cond_false_left, ne_eq, Decidable.not_not, bne_iff_ne, beq_iff_eq, beq_eq_false_iff_ne, Bool.not_true, Bool.not_false] at hg59n
        omega
      ·
        have hg59n := hg59; try simp only [decide_eq_true_eq, decide_eq_false_iff_not, Bool.not_eq_true', Bool.not_eq_false', Bool.and_eq_true, Bool.or_eq_true, Bool.or_eq_false_iff, Bool.cond_true_right, Bool.cond_false_right, Bool.cond_true_left, Bool.cond_false_left, ne_eq, Decidable.not_not, bne_iff_ne, beq_iff_eq, beq_eq_false_iff_ne, Bool.not_true, Bool.not_false] at hg59n
        refine tng rfl rfl rfl hg59 (fun _ hG => mvS rfl) ?_
        refine tng rfl rfl rfl hg59 (fun _ hG => mvI rfl) ?_
        refine tng rfl rfl rfl hg59 (fun _ hG => y_ix (hSb.ext hG) sl22 rfl (rfl) rfl (by omega) (by omega)) ?_
        refine tng rfl rfl rfl hg59 (fun _ hG => y_le (hSb.ext hG) na3 rfl (by omega) (by omega) rfl) ?_
        refine tng rfl rfl rfl hg59 (fun _ hG => mvS rfl) ?_
        refine tng rfl rfl rfl hg59 (fun _ hG => mvI rfl) ?_
        refine tng rfl rfl rfl hg59 (fun _ hG => y_ix (hSa.ext hG) sl22 rfl (rfl) rfl (by omega) (by omega)) ?_
        refine tng rfl rfl rfl hg59 (fun _ hG => y_le (hSa.ext hG) na3 rfl (by omega) (by omega) rfl) ?_
        refine tng rfl rfl rfl hg59 (fun _ hG => mvI rfl) ?_
        refine tng rfl rfl rfl hg59 (fun _ hG => y_add rfl rfl (by omega)) ?_
        refine t_end ?_
        have hz60 := hx58.size
        replace hL0 := hL0.ext hx58
        replace hL1 := hL1.ext hx58
        replace hE := hE.step hx58 (.inl (Nat.le_refl _))
        replace hN := hN.ext hx58
        replace hbl10 := hbl10.ext hx58
        replace hT := hT.ext hx58
        replace hSa := hSa.ext hx58
        replace hSb := hSb.ext hx58
        replace hlp0 := hlp0.step hx58 (.inl (Nat.le_refl _))
        refine stg rfl rfl hg59 (y_gtr rfl rfl) ?_
        refine st (y_pickF rfl hg59 (v := .bool _) rfl) ?_
        refine rg_end ?_
        refine n_then ?_
        refine cnd rfl (fun hc2 => ?_) (fun hc2 => ?_)
        ·
          try simp only [decide_eq_true_eq, decide_eq_false_iff_not, Bool.not_eq_true', Bool.not_eq_false', Bool.and_eq_true, Bool.or_eq_true, Bool.or_eq_false_iff, Bool.cond_true_right, Bool.cond_false_right, Bool.cond_true_left, Bool.cond_false_left, ne_eq, Decidable.not_not, bne_iff_ne, beq_iff_eq, beq_eq_false_iff_ne, Bool.not_true, Bool.not_false] at hc2
          omega
        ·
          try simp only [decide_eq_true_eq, decide_eq_false_iff_not, Bool.not_eq_true', Bool.not_eq_false', Bool.and_eq_true, Bool.or_eq_true, Bool.or_eq_false_iff, Bool.cond_true_right, Bool.cond_false_right, Bool.cond_true_left, Bool.cond_false_left, ne_eq, Decidable.not_not, bne_iff_ne, beq_iff_eq, beq_eq_false_iff_ne, Bool.not_true, Bool.not_false] at hc2
          refine wp_skip ?_
          refine n_blk ?_
          refine n_then ?_
          refine rg ?_
          refine st (y_add rfl rfl (by omega)) ?_
          refine st (mvI rfl) ?_
          refine rg_end ?_
          exact n_then ⟨k + 1, _, rfl, same_lk rfl (same_h0), ⟨rfl, trivial⟩, ⟨hlp0, by omega⟩, by first | omega | (dsimp only; omega)⟩
    ·
      try simp only [decide_eq_true_eq, decide_eq_false_iff_not, Bool.not_eq_true', Bool.not_eq_false', Bool.and_eq_true, Bool.or_eq_true, Bool.or_eq_false_iff, Bool.cond_true_right, Bool.cond_false_right, Bool.cond_true_left, Bool.cond_false_left, ne_eq, Decidable.not_not, bne_iff_ne, beq_iff_eq, beq_eq_false_iff_ne, Bool.not_true, Bool.not_false] at hc1
      refine wp_exit ?_
      refine e_then (e_then (e_blk (?_)))
      refine n_then ?_
      refine wp_seq ?_
      refine rg ?_
      refine sc cl15 (law22_awake_ok _) rfl ?_
      rintro v65 w61 ⟨rfl, ho62⟩
      have hz66 := ho62.size
      replace hL0 := hL0.ext ho62
      replace hL1 := hL1.ext ho62
      replace hE := hE.step ho62 (.inl (Nat.le_refl _))
      replace hN := hN.ext ho62
      replace hbl10 := hbl10.ext ho62
      replace hT := hT.ext ho62
      replace hSa := hSa.ext ho62
      replace hSb := hSb.ext ho62
      refine st (asB rfl) ?_
      refine rg_end ?_
      refine n_then ?_
      refine wp_ret ?_
      refine ret1 (v := (.bool _)) Try.results7 rfl ?_
      exact ⟨rfl, hE⟩
end Go.Proofs.Ytggaekjnpbicnaa
