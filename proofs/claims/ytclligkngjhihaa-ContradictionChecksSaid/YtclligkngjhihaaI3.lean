/-
  Walks of the functions, printed by a program out of the code and the loops' relations.
-/
import Derived.Test.YtclligkngjhihaaWkD
import Derived.Test.YtclligkngjhihaaProg
import Derived.KernelRfl
import Derived.Test.YtclligkngjhihaaI2
namespace Go.Proofs.Ytclligkngjhihaa
open Go.Wk Go.RowKit
set_option linter.unusedVariables false
set_option linter.unusedSimpArgs false
theorem cl19 : Callable Try.prog 19 := ⟨Try.call19⟩
theorem cl29 : Callable Try.prog 29 := ⟨Try.call29⟩
theorem cl33 : Callable Try.prog 33 := ⟨Try.call33⟩
theorem cl41 : Callable Try.prog 41 := ⟨Try.call41⟩
theorem cl66 : Callable Try.prog 66 := ⟨Try.call66⟩

theorem sfT_len (M : Net) (L : Int) : ((sfT M L).length : Int) ≤ 48 := by
  unfold sfT
  split
  · by_cases h : findE M false L = 0
    · rcases find_fst (.inr h) with k | k
      · omega
      · have e := k.2.len
        have := (findE_cases (.inr h)).1.ev
        omega
    · unfold findT; rw [if_neg h]; simp
  · simp
theorem run_wl {N : Net} {B : Int} : ∀ (k : Nat) (s : FS), runTo N B k = some s → ∀ x ∈ s.wit, (x.length : Int) ≤ 48
  | 0, s, e, x, hx => by
    rw [runTo] at e
    rw [← Option.some.inj e] at hx; cases hx
  | k + 1, s, e, x, hx => by
    rw [runTo] at e
    cases hq : runTo N B k with
    | none => rw [hq] at e; cases e
    | some q =>
      rw [hq] at e
      obtain ⟨_, rfl⟩ := stepF_some e
      have ih := run_wl k q hq x
      dsimp only at hx
      split at hx
      · rcases List.mem_append.1 hx with hx | hx
        · exact ih hx
        · rw [List.mem_singleton.1 hx]; exact sfT_len _ _
      · exact ih hx
theorem cfW_len {N : Net} {B : Int} : ∀ x ∈ cfW N B, (x.length : Int) ≤ 48 := by
  intro x hx
  unfold cfW at hx
  split at hx
  · split at hx
    · rename_i s hs; exact run_wl _ s hs x hx
    · cases hx
  · cases hx
theorem cfS_len {N : Net} {B : Int} : ((cfS N B).length : Int) ≤ 512 := by
  unfold cfS
  split
  · rename_i h
    obtain ⟨hN, hB, _, s, hs, e1, _⟩ := cfE_cases h
    rw [hs]
    have h1 := setB_len s.b
    have h2 := (run_ri (by omega) _ s (Nat.le_refl _) hs).len
    have := hN.ac
    show ((setB s.b).length : Int) ≤ 512
    omega
  · simp
theorem cfW_cnt {N : Net} {B : Int} : ((cfW N B).length : Int) ≤ 512 := by
  by_cases h : cfE N B = 0
  · rw [(cf_least h).len]; exact cfS_len
  · rw [(cf_none h).2.1]; simp

set_option maxRecDepth 100000 in
theorem keep_SameLists_ok (ra rb : List Rw) (aa ab : Option Addr) (ca cb la ha_ lb hb_ : Nat) (w : World) (hA : WitIn la ha_ w aa ra) (hB : WitIn lb hb_ w ab rb) (hAB : ra.map Rw.l = rb.map Rw.l) (hn : (ra.length : Int) ≤ 1000000) (hln : ∀ r ∈ ra, (r.l.length : Int) ≤ 1000000) : Cal Try.prog 66 [.slice aa ra.length ca, .slice ab rb.length cb] w (fun v w' => v = .bool true ∧ Ext w w') := by
  have hlen : ra.length = rb.length := by have := congrArg List.length hAB; simpa using this
  have hE : Out 0 0 w w := Out.refl _ _ w
  refine enter Try.func66 rfl Try.ntmps66 rfl ?_
  refine wp_seq ?_
  refine rg ?_
  refine st (asB rfl) ?_
  refine rg_end ?_
  refine n_then ?_
  refine wp_seq ?_
  refine wp_seq ?_
  refine rg ?_
  refine st (mvS rfl) ?_
  refine st (y_len Try.underlying44 rfl) ?_
  refine st (mvS rfl) ?_
  refine st (y_len Try.underlying44 rfl) ?_
  refine st (y_neq rfl rfl) ?_
  refine rg_end ?_
  refine n_then ?_
  refine cnd rfl (fun hc0 => absurd ((decide_eq_false (not_not_intro (by omega))).symm.trans hc0) (by decide)) (fun hc0 => ?_)
  refine wp_skip ?_
  refine n_then ?_
  refine wp_seq ?_
  refine wp_seq ?_
  refine rg ?_
  refine st (mvS rfl) ?_
  refine st (y_len Try.underlying44 rfl) ?_
  refine st (mvI rfl) ?_
  refine rg_end ?_
  refine n_then ?_
  refine wp_block ?_
  refine lp (γ := Nat) [4, 5, 13, 14, 15, 16, 17, 18, 19, 20, 21, 22, 23, 24, 25, 26] (fun k => [(13, .int .i64 (k : Int))]) (fun k w_ => Ext w w_ ∧ (k : Int) ≤ ra.length) (fun k => ra.length - k) 0 ⟨rfl, trivial⟩ ⟨Out.refl _ _ _, by omega⟩ ?_
  rintro k hav_ w1 ⟨ho2, hk⟩
  have hlp0 := ho2
  have hz3 := ho2.size
  replace hA := hA.ext ho2
  replace hB := hB.ext ho2
  replace hE := hE.step ho2 (.inl (Nat.le_refl _))
  refine wp_seq ?_
  refine rg ?_
  refine st (y_lss rfl rfl) ?_
  refine rg_end ?_
  refine n_then ?_
  refine wp_seq ?_
  refine cnd rfl (fun hc1 => ?_) (fun hc1 => ?_)
  ·
    try simp only [decide_eq_true_eq, decide_eq_false_iff_not, Bool.not_eq_true', Bool.not_eq_false', Bool.and_eq_true, Bool.or_eq_true, Bool.or_eq_false_iff, Bool.cond_true_right, Bool.cond_false_right, Bool.cond_true_left, Bool.cond_false_left, ne_eq, Decidable.not_not, bne_iff_ne, beq_iff_eq, beq_eq_false_iff_ne, Bool.not_true, Bool.not_false] at hc1
    have hm1 := el_mem (l := ra) (i := (k : Int)) (by omega) (by omega)
    have hm2 := el_mem (l := rb) (i := (k : Int)) (by omega) (by omega)
    have hra := hA.row _ hm1
    have hrb := hB.row _ hm2
    have hrl := hln _ hm1
    have hek : (el ra (k : Int)).l = (el rb (k : Int)).l := by
      have h1 := elMap (l := ra) (g := Rw.l) (i := (k : Int)) (by omega) (by omega)
      have h2 := elMap (l := rb) (g := Rw.l) (i := (k : Int)) (by omega) (by omega)
      rw [← h1, ← h2, hAB]
    refine wp_skip ?_
    refine n_then ?_
    refine wp_seq ?_
    refine wp_block ?_
    refine wp_seq ?_
    refine rg ?_
    refine st (mvI rfl) ?_
    refine st (asI rfl) ?_
    refine rg_end ?_
    refine n_then ?_
    refine wp_seq ?_
    refine rgD 8 (fun w_ => Ext w1 w_) (fun i => false) mixed (by kernel_rfl) ?_
    intro w4 ho5 hs6
    refine ⟨ho5, ?_⟩
    have hx7 := ho5
    refine tn rfl (fun _ hG => mvS rfl) ?_
    refine tn rfl (fun _ hG => mvI rfl) ?_
    refine tn rfl (fun _ hG => y_ix (hA.tb.ext hG) sl44 rfl (rfl) rfl (by omega) (by omega)) ?_
    refine tn rfl (fun _ hG => y_le (hA.tb.ext hG) na22 rfl (by omega) (by omega) rfl) ?_
    refine tn rfl (fun _ hG => mvS rfl) ?_
    refine tn rfl (fun _ hG => mvI rfl) ?_
    refine tn rfl (fun _ hG => y_ix (hB.tb.ext hG) sl44 rfl (rfl) rfl (by omega) (by omega)) ?_
    refine tn rfl (fun _ hG => y_le (hB.tb.ext hG) na22 rfl (by omega) (by omega) rfl) ?_
    refine t_end ?_
    have hz8 := hx7.size
    replace hA := hA.ext hx7
    replace hB := hB.ext hx7
    replace hE := hE.step hx7 (.inl (Nat.le_refl _))
    replace hlp0 := hlp0.step hx7 (.inl (Nat.le_refl _))
    replace hra := hra.ext hx7
    replace hrb := hrb.ext hx7
    refine sc cl33 (keep_Same_int_ok (el ra (k : Int)).l (el rb (k : Int)).l _ _ _ _ _ _ _ _ _ hra hrb (by omega)) rfl ?_
    rintro v13 w9 ⟨rfl, ho10⟩
    have hz14 := ho10.size
    replace hA := hA.ext ho10
    replace hB := hB.ext ho10
    replace hE := hE.step ho10 (.inl (Nat.le_refl _))
    replace hlp0 := hlp0.step ho10 (.inl (Nat.le_refl _))
    replace hra := hra.ext ho10
    replace hrb := hrb.ext ho10
    refine st (y_not rfl) ?_
    refine rg_end ?_
    refine n_then ?_
    refine cnd rfl (fun hc2 => absurd ((congrArg Bool.not (decide_eq_true hek)).symm.trans hc2) (by decide)) (fun hc2 => ?_)
    refine wp_skip ?_
    refine n_blk ?_
    refine n_then ?_
    refine rg ?_
    refine st (y_add rfl rfl (by omega)) ?_
    refine st (mvI rfl) ?_
    refine rg_end ?_
    exact n_then ⟨k + 1, _, rfl, same_lk rfl (same_h0), ⟨rfl, trivial⟩, ⟨hlp0, by omega⟩, by first | omega | (dsimp only; omega)⟩
  ·
    try simp only [decide_eq_true_eq, decide_eq_false_iff_not, Bool.not_eq_true', Bool.not_eq_false', Bool.and_eq_true, Bool.or_eq_true, Bool.or_eq_false_iff, Bool.cond_true_right, Bool.cond_false_right, Bool.cond_true_left, Bool.cond_false_left, ne_eq, Decidable.not_not, bne_iff_ne, beq_iff_eq, beq_eq_false_iff_ne, Bool.not_true, Bool.not_false] at hc1
    refine wp_exit ?_
    refine e_then (e_then (e_blk (?_)))
    refine n_then ?_
    refine wp_seq ?_
    refine rg ?_
    refine st (asB rfl) ?_
    refine rg_end ?_
    refine n_then ?_
    refine wp_ret ?_
    refine ret1 (v := (.bool _)) Try.results66 rfl ?_
    exact ⟨rfl, hE⟩

set_option maxRecDepth 100000 in
theorem keep_SameRefusal_ok (S : List Int) (ra rb : List Rw) (as1 as2 aw1 aw2 : Option Addr) (cs1 cs2 cw1 cw2 l1 h1 l2 h2 l3 h3 l4 h4 : Nat) (w : World) (hS1 : Ints l1 h1 w as1 S) (hS2 : Ints l2 h2 w as2 S) (hW1 : WitIn l3 h3 w aw1 ra) (hW2 : WitIn l4 h4 w aw2 rb) (hAB : ra.map Rw.l = rb.map Rw.l) (hs : (S.length : Int) ≤ 1000000) (hn : (ra.length : Int) ≤ 1000000) (hln : ∀ r ∈ ra, (r.l.length : Int) ≤ 1000000) : Cal Try.prog 41 [.agg #[.slice as1 S.length cs1, .slice aw1 ra.length cw1], .agg #[.slice as2 S.length cs2, .slice aw2 rb.length cw2]] w (fun v w' => v = .bool true ∧ Ext w w') := by
  have hE : Out 0 0 w w := Out.refl _ _ w
  refine enter Try.func41 rfl Try.ntmps41 rfl ?_
  refine wp_seq ?_
  refine rg ?_
  refine sd (d_boxA rfl ?_)
  intro b2 w1 hbb2 hs3 ho2 hb2
  have hz4 := ho2.size
  replace hS1 := hS1.ext ho2
  replace hS2 := hS2.ext ho2
  replace hW1 := hW1.ext ho2
  replace hW2 := hW2.ext ho2
  replace hE := hE.step ho2 (.inl (Nat.le_refl _))
  refine sd (d_boxA rfl ?_)
  intro b3 w5 hbb3 hs7 ho6 hb3
  have hz8 := ho6.size
  replace hS1 := hS1.ext ho6
  replace hS2 := hS2.ext ho6
  replace hW1 := hW1.ext ho6
  replace hW2 := hW2.ext ho6
  replace hE := hE.step ho6 (.inl (Nat.le_refl _))
  replace hb2 := hb2.ext ho6
  refine st (asB rfl) ?_
  refine rg_end ?_
  refine n_then ?_
  refine wp_seq ?_
  refine rg ?_
  refine st (y_fld fld46_0 rfl) ?_
  refine st (y_lb hb2 na22 rfl rfl) ?_
  refine st (y_fld fld46_0 rfl) ?_
  refine st (y_lb hb3 na22 rfl rfl) ?_
  refine sc cl33 (keep_Same_int_ok S S _ _ _ _ _ _ _ _ _ hS1 hS2 (by omega)) rfl ?_
  rintro v13 w9 ⟨rfl, ho10⟩
  have hz14 := ho10.size
  replace hS1 := hS1.ext ho10
  replace hS2 := hS2.ext ho10
  replace hW1 := hW1.ext ho10
  replace hW2 := hW2.ext ho10
  replace hE := hE.step ho10 (.inl (Nat.le_refl _))
  replace hb2 := hb2.ext ho10
  replace hb3 := hb3.ext ho10
  refine st (mvB rfl) ?_
  refine stg rfl rfl (decide_eq_true rfl) (y_fld fld46_1 rfl) ?_
  refine stg rfl rfl (decide_eq_true rfl) (y_lb hb2 na44 rfl rfl) ?_
  refine stg rfl rfl (decide_eq_true rfl) (y_fld fld46_1 rfl) ?_
  refine stg rfl rfl (decide_eq_true rfl) (y_lb hb3 na44 rfl rfl) ?_
  refine scg rfl rfl (decide_eq_true rfl) cl66 (keep_SameLists_ok ra rb _ _ _ _ _ _ _ _ _ hW1 hW2 hAB hn hln) rfl ?_
  rintro v19 w15 ⟨rfl, ho16⟩
  have hz20 := ho16.size
  replace hS1 := hS1.ext ho16
  replace hS2 := hS2.ext ho16
  replace hW1 := hW1.ext ho16
  replace hW2 := hW2.ext ho16
  replace hE := hE.step ho16 (.inl (Nat.le_refl _))
  replace hb2 := hb2.ext ho16
  replace hb3 := hb3.ext ho16
  refine st (y_pickT rfl (decide_eq_true rfl) (v := .bool _) rfl) ?_
  refine st (asB rfl) ?_
  refine rg_end ?_
  refine n_then ?_
  refine wp_ret ?_
  refine ret1 (v := (.bool _)) Try.results41 rfl ?_
  exact ⟨rfl, hE⟩

set_option maxRecDepth 100000 in
theorem law18_finds_ok (N : Net) (A : NetA) (lo hi : Nat) (B : Int) (w : World) (hN : NetIn lo hi w N A)  : Cal Try.prog 19 [netV N A, .int .i64 B] w (fun v w' => v = .bool true ∧ Ext w w') := by
  replace hN := hN.full
  have hE : Out 0 0 w w := Out.refl _ _ w
  refine enter Try.func19 rfl Try.ntmps19 rfl ?_
  refine wp_seq ?_
  refine rg ?_
  refine sd (d_boxA rfl ?_)
  intro b2 w1 hbb2 hs3 ho2 hb2
  have hz4 := ho2.size
  replace hN := hN.ext ho2
  replace hE := hE.step ho2 (.inl (Nat.le_refl _))
  refine st (asB rfl) ?_
  refine rg_end ?_
  refine n_then ?_
  refine wp_seq ?_
  refine rg ?_
  refine st (y_lbN hb2 agg26 rfl) ?_
  refine st (mvI rfl) ?_
  refine sc cl21 (con_Find_ok N A _ _ B _ hN) rfl ?_
  rintro v9 w5 ⟨aq1, cq1, aw1, cw1, rows1, rfl, hcq1, hQ1, hW1, hrw1, ho6⟩
  have hz10 := ho6.size
  replace hN := hN.ext ho6
  replace hE := hE.step ho6 (.inl (Nat.le_refl _))
  replace hb2 := hb2.ext ho6
  refine st (mvT rfl) ?_
  refine st (y_ext rfl rfl) ?_
  refine st (y_ext rfl rfl) ?_
  refine st (y_ext rfl rfl) ?_
  refine sd (d_allocA zer46 ?_)
  intro b5 w11 hbb5 hs13 ho12 hb5
  have hz14 := ho12.size
  replace hN := hN.ext ho12
  replace hE := hE.step ho12 (.inl (Nat.le_refl _))
  replace hb2 := hb2.ext ho12
  replace hQ1 := hQ1.ext ho12
  replace hW1 := hW1.ext ho12
  refine sd0 (d_stN hb5 rfl rfl sz46 rfl rfl ?_)
  intro w15 hs17 ho16 hb5'
  clear hb5; have hb5 := hb5'; clear hb5'
  have hz18 := ho16.size
  replace hN := hN.out ho16 (by first | omega | (simp only [blk_some, hi1_some] at *; omega))
  replace hE := hE.step ho16 (by first | omega | (simp only [blk_some, hi1_some] at *; omega))
  replace hb2 := hb2.out ho16 (by first | omega | (simp only [blk_some, hi1_some] at *; omega))
  replace hQ1 := hQ1.out ho16 (by first | omega | (simp only [blk_some, hi1_some] at *; omega))
  replace hW1 := hW1.out ho16 (by first | omega | (simp only [blk_some, hi1_some] at *; omega))
  refine st (asI rfl) ?_
  refine st (asI rfl) ?_
  refine rg_end ?_
  refine n_then ?_
  refine wp_seq ?_
  refine rg ?_
  refine st (y_lbN hb2 agg26 rfl) ?_
  refine st (mvI rfl) ?_
  refine sc cl29 (ref17_Find_ok N A _ _ B _ hN) rfl ?_
  rintro v23 w19 ⟨aq2, cq2, aw2, cw2, rows2, rfl, hcq2, hQ2, hW2, hrw2, ho20⟩
  have hz24 := ho20.size
  replace hN := hN.ext ho20
  replace hE := hE.step ho20 (.inl (Nat.le_refl _))
  replace hb2 := hb2.ext ho20
  replace hQ1 := hQ1.ext ho20
  replace hW1 := hW1.ext ho20
  replace hb5 := hb5.ext ho20
  refine st (mvT rfl) ?_
  refine st (y_ext rfl rfl) ?_
  refine st (y_ext rfl rfl) ?_
  refine st (y_ext rfl rfl) ?_
  refine sd (d_allocA zer46 ?_)
  intro b8 w25 hbb8 hs27 ho26 hb8
  have hz28 := ho26.size
  replace hN := hN.ext ho26
  replace hE := hE.step ho26 (.inl (Nat.le_refl _))
  replace hb2 := hb2.ext ho26
  replace hQ1 := hQ1.ext ho26
  replace hW1 := hW1.ext ho26
  replace hb5 := hb5.ext ho26
  replace hQ2 := hQ2.ext ho26
  replace hW2 := hW2.ext ho26
  refine sd0 (d_stN hb8 rfl rfl sz46 rfl rfl ?_)
  intro w29 hs31 ho30 hb8'
  clear hb8; have hb8 := hb8'; clear hb8'
  have hz32 := ho30.size
  replace hN := hN.out ho30 (by first | omega | (simp only [blk_some, hi1_some] at *; omega))
  replace hE := hE.step ho30 (by first | omega | (simp only [blk_some, hi1_some] at *; omega))
  replace hb2 := hb2.out ho30 (by first | omega | (simp only [blk_some, hi1_some] at *; omega))
  replace hQ1 := hQ1.out ho30 (by first | omega | (simp only [blk_some, hi1_some] at *; omega))
  replace hW1 := hW1.out ho30 (by first | omega | (simp only [blk_some, hi1_some] at *; omega))
  replace hb5 := hb5.out ho30 (by first | omega | (simp only [blk_some, hi1_some] at *; omega))
  replace hQ2 := hQ2.out ho30 (by first | omega | (simp only [blk_some, hi1_some] at *; omega))
  replace hW2 := hW2.out ho30 (by first | omega | (simp only [blk_some, hi1_some] at *; omega))
  refine st (asI rfl) ?_
  refine st (asI rfl) ?_
  refine rg_end ?_
  refine n_then ?_
  refine wp_seq ?_
  refine rg ?_
  refine st (y_lbN hb5 agg46 rfl) ?_
  refine st (y_lbN hb8 agg46 rfl) ?_
  have hrw : rows1.map Rw.l = rows2.map Rw.l := hrw1.trans hrw2.symm
  have hc1 := congrArg List.length hrw1
  rw [List.length_map] at hc1
  have hc2 := cfW_cnt (N := N) (B := B)
  have hc3 := cfS_len (N := N) (B := B)
  have hc4 : ∀ r ∈ rows1, (r.l.length : Int) ≤ 1000000 := fun r hr => by have := cfW_len (N := N) (B := B) r.l (by rw [← hrw1]; exact List.mem_map.2 ⟨r, hr, rfl⟩); omega
  refine sc cl41 (keep_SameRefusal_ok (cfS N B) rows1 rows2 _ _ _ _ _ _ _ _ _ _ _ _ _ _ _ _ _ hQ1 hQ2 hW1 hW2 hrw (by omega) (by omega) hc4) rfl ?_
  rintro v37 w33 ⟨rfl, ho34⟩
  have hz38 := ho34.size
  replace hN := hN.ext ho34
  replace hE := hE.step ho34 (.inl (Nat.le_refl _))
  replace hb2 := hb2.ext ho34
  replace hQ1 := hQ1.ext ho34
  replace hW1 := hW1.ext ho34
  replace hb5 := hb5.ext ho34
  replace hQ2 := hQ2.ext ho34
  replace hW2 := hW2.ext ho34
  replace hb8 := hb8.ext ho34
  refine st (mvB rfl) ?_
  refine stg rfl rfl rfl (mvI rfl) ?_
  refine stg rfl rfl rfl (mvI rfl) ?_
  refine stg rfl rfl rfl (y_eql rfl rfl) ?_
  refine st (y_pickT rfl rfl (v := .bool _) rfl) ?_
  refine st (mvB rfl) ?_
  refine stg rfl rfl (decide_eq_true rfl) (mvI rfl) ?_
  refine stg rfl rfl (decide_eq_true rfl) (mvI rfl) ?_
  refine stg rfl rfl (decide_eq_true rfl) (y_eql rfl rfl) ?_
  refine st (y_pickT rfl (decide_eq_true rfl) (v := .bool _) rfl) ?_
  refine st (asB rfl) ?_
  refine rg_end ?_
  refine n_then ?_
  refine wp_ret ?_
  refine ret1 (v := (.bool _)) Try.results19 rfl ?_
  exact ⟨vb (by simp), hE⟩

set_option maxHeartbeats 1000000 in
set_option maxRecDepth 100000 in
theorem law18_ContradictionFinds_ok (a0 : Option Addr) (c0 : Nat) (l0 : List Int) (bd : Int) (w : World) (hL0 : Ints 0 w.heap.size w a0 l0) (hl0 : (l0.length : Int) ≤ 9223372036854775807) : Cal Try.prog 4 [.slice a0 l0.length c0, .int .i64 bd] w (fun v w' => v = .bool true ∧ Ext w w') := by
  have hE : Out 0 0 w w := Out.refl _ _ w
  refine enter Try.func4 rfl Try.ntmps4 rfl ?_
  refine wp_seq ?_
  refine rg ?_
  refine st (asB rfl) ?_
  refine rg_end ?_
  refine n_then ?_
  refine wp_seq ?_
  refine rg ?_
  refine st (mvS rfl) ?_
  refine sc cl18 (keep_Network_ok _ _ _ _ _ _ hL0 hl0) rfl ?_
  rintro v5 w1 ⟨N, A, rfl, hsm, hev, hac, hdis, ho2⟩
  have hN : NetIn _ _ _ N A := ⟨Ow.sl hev, Ow.sl hac⟩
  clear hev hac
  have hok := hsm.1
  have hev1 := hok.ev
  have hac8 := hsm.2.2.2.2.2.1
  have hp2 := hsm.2.1
  have hp9 := hsm.2.2.1
  have hz6 := ho2.size
  replace hL0 := hL0.ext ho2
  replace hE := hE.step ho2 (.inl (Nat.le_refl _))
  refine sd (d_allocA zer26 ?_)
  intro b5 w7 hbb5 hs9 ho8 hb5
  have hz10 := ho8.size
  replace hL0 := hL0.ext ho8
  replace hE := hE.step ho8 (.inl (Nat.le_refl _))
  replace hN := hN.ext ho8
  refine sd0 (d_stN hb5 rfl rfl sz26 rfl rfl ?_)
  intro w11 hs13 ho12 hb5'
  clear hb5; have hb5 := hb5'; clear hb5'
  have hz14 := ho12.size
  replace hL0 := hL0.out ho12 (by first | omega | (simp only [blk_some, hi1_some] at *; omega))
  replace hE := hE.step ho12 (by first | omega | (simp only [blk_some, hi1_some] at *; omega))
  replace hN := hN.out ho12 (by first | omega | (simp only [blk_some, hi1_some] at *; omega))
  refine rg_end ?_
  refine n_then ?_
  refine wp_seq ?_
  refine rgD 15 (fun w_ => Ext w11 w_) (fun i => Nat.beq i 0 || Nat.beq i 3 || Nat.beq i 8 || Nat.beq i 10) mixed (by kernel_rfl) ?_
  intro w15 ho16 hs17
  refine ⟨ho16, ?_⟩
  have hx18 := ho16
  refine tc rfl cl16 (law18_awake_ok _) rfl ?_
  rintro v23 w19 ⟨rfl, ho20⟩
  have hx24 := hx18.step ho20 (.inl (Nat.le_refl _))
  have hz25 := ho20.size
  refine ⟨hx24, ?_⟩
  refine tn rfl (fun _ hG => mvB rfl) ?_
  refine tng rfl rfl rfl rfl (fun _ hG => y_lbN (hb5.ext hG) agg26 rfl) ?_
  refine tcg rfl rfl rfl rfl cl19 (law18_finds_ok _ _ _ _ _ _ (hN.ext hx24)) rfl ?_
  rintro v30 w26 ⟨rfl, ho27⟩
  have hx31 := hx24.step ho27 (.inl (Nat.le_refl _))
  have hz32 := ho27.size
  refine ⟨hx31, ?_⟩
  refine tn rfl (fun _ hG => y_pickT rfl rfl (v := .bool _) rfl) ?_
  refine tn rfl (fun _ hG => mvB rfl) ?_
  refine tng rfl rfl rfl rfl (fun _ hG => y_lbN (hb5.ext hG) agg26 rfl) ?_
  refine tng rfl rfl rfl rfl (fun _ hG => mvI rfl) ?_
  refine tcg rfl rfl rfl rfl cl20 (keep_Pick_ok _ _ _ (by omega) (by omega)) rfl ?_
  rintro v37 w33 ⟨rfl, ho34⟩
  have hpk := pick_rng bd 500 (by omega)
  have hx38 := hx31.step ho34 (.inl (Nat.le_refl _))
  have hz39 := ho34.size
  refine ⟨hx38, ?_⟩
  refine tng rfl rfl rfl rfl (fun _ hG => y_add rfl rfl (by omega)) ?_
  refine tcg rfl rfl rfl rfl cl19 (law18_finds_ok _ _ _ _ _ _ (hN.ext hx38)) rfl ?_
  rintro v44 w40 ⟨rfl, ho41⟩
  have hx45 := hx38.step ho41 (.inl (Nat.le_refl _))
  have hz46 := ho41.size
  refine ⟨hx45, ?_⟩
  refine tn rfl (fun _ hG => y_pickT rfl rfl (v := .bool _) rfl) ?_
  refine tn rfl (fun _ hG => mvB rfl) ?_
  refine tng rfl rfl rfl rfl (fun _ hG => y_lbN (hb5.ext hG) agg26 rfl) ?_
  refine tng rfl rfl rfl rfl (fun _ hG => mvI rfl) ?_
  refine t_end ?_
  have hz47 := hx45.size
  replace hL0 := hL0.ext hx45
  replace hE := hE.step hx45 (.inl (Nat.le_refl _))
  replace hN := hN.ext hx45
  replace hb5 := hb5.ext hx45
  refine scg rfl rfl rfl cl19 (law18_finds_ok _ _ _ _ _ _ hN) rfl ?_
  rintro v52 w48 ⟨rfl, ho49⟩
  have hz53 := ho49.size
  replace hL0 := hL0.ext ho49
  replace hE := hE.step ho49 (.inl (Nat.le_refl _))
  replace hN := hN.ext ho49
  replace hb5 := hb5.ext ho49
  refine st (y_pickT rfl rfl (v := .bool _) rfl) ?_
  refine st (asB rfl) ?_
  refine rg_end ?_
  refine n_then ?_
  refine wp_ret ?_
  refine ret1 (v := (.bool _)) Try.results4 rfl ?_
  exact ⟨rfl, hE⟩
end Go.Proofs.Ytclligkngjhihaa
