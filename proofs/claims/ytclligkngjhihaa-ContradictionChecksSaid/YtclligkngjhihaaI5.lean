/-
  Walks of the functions, printed by a program out of the code and the loops' relations.
-/
import Derived.Test.YtclligkngjhihaaWkD
import Derived.Test.YtclligkngjhihaaProg
import Derived.KernelRfl
import Derived.Test.YtclligkngjhihaaI4
namespace Go.Proofs.Ytclligkngjhihaa
open Go.Wk Go.RowKit
set_option linter.unusedVariables false
set_option linter.unusedSimpArgs false
theorem cl58 : Callable Try.prog 58 := ⟨Try.call58⟩
theorem cl60 : Callable Try.prog 60 := ⟨Try.call60⟩
theorem cl69 : Callable Try.prog 69 := ⟨Try.call69⟩

/-- What is asked of a refusal, apart from the search. -/
def holdB (N : Net) (S : List Int) (W : List (List Int)) : Bool := ascB N.acts.length (-1) S && (decide (W.length = S.length) && (List.range S.length).all fun (j : Nat) => feas (subN N (wo S j)) (el W (j : Int)))
theorem hold_iff {N : Net} {S : List Int} {W : List (List Int)} : holdB N S W = true ↔ ascB N.acts.length (-1) S = true ∧ W.length = S.length ∧ ∀ j : Nat, j < S.length → feas (subN N (wo S j)) (el W (j : Int)) = true := by
  unfold holdB
  simp only [Bool.and_eq_true, decide_eq_true_eq, List.all_eq_true, List.mem_range]
theorem hold_asc {N : Net} {S : List Int} {W : List (List Int)} (h : ascB N.acts.length (-1) S = false) : holdB N S W = false := by unfold holdB; rw [h, Bool.false_and]
theorem hold_len {N : Net} {S : List Int} {rows : List Rw} (h : ¬ (rows.length : Int) = S.length) : holdB N S (rows.map Rw.l) = false := by
  cases e : holdB N S (rows.map Rw.l) with
  | false => rfl
  | true => have := (hold_iff.1 e).2.1; rw [List.length_map] at this; omega
theorem hold_at {N : Net} {S : List Int} {rows : List Rw} {k : Nat} (hk : k < S.length) (hr : k < rows.length) (h : feas (subN N (wo S k)) (el rows (k : Int)).l = false) : holdB N S (rows.map Rw.l) = false := by
  cases e : holdB N S (rows.map Rw.l) with
  | false => rfl
  | true => have := (hold_iff.1 e).2.2 k hk; rw [elMap (by omega) (by omega), h] at this; cases this
theorem hold_all {N : Net} {S : List Int} {rows : List Rw} (h1 : ascB N.acts.length (-1) S = true) (h2 : (rows.length : Int) = S.length) (h : ∀ j : Nat, j < S.length → feas (subN N (wo S j)) (el rows (j : Int)).l = true) : holdB N S (rows.map Rw.l) = true :=
  hold_iff.2 ⟨h1, by rw [List.length_map]; omega, fun j hj => by rw [elMap (by omega) (by omega)]; exact h j hj⟩
def chkE (N : Net) (S : List Int) (W : List (List Int)) (B : Int) : Int := if netOk N = true then (if 1 ≤ B ∧ B ≤ 1048576 then (if holdB N S W = true then (if findE (subN N S) false B = 15 then 15 else 0) else 0) else 4) else 1
def chkB (N : Net) (S : List Int) (W : List (List Int)) (B : Int) : Bool := decide (netOk N = true ∧ (1 ≤ B ∧ B ≤ 1048576) ∧ holdB N S W = true ∧ findE (subN N S) false B = 14)
theorem chk1 {N : Net} {S : List Int} {W : List (List Int)} {B : Int} (h : netOk N = false) : chkB N S W B = false ∧ chkE N S W B = 1 := by
  unfold chkB chkE; simp [h]
theorem chk4 {N : Net} {S : List Int} {W : List (List Int)} {B : Int} (h : netOk N = true) (hB : ¬ (1 ≤ B ∧ B ≤ 1048576)) : chkB N S W B = false ∧ chkE N S W B = 4 := by
  refine ⟨decide_eq_false fun k => hB k.2.1, ?_⟩
  unfold chkE; rw [if_pos h, if_neg hB]
theorem chkH {N : Net} {S : List Int} {W : List (List Int)} {B : Int} (h : netOk N = true) (hB : 1 ≤ B ∧ B ≤ 1048576) (hh : holdB N S W = false) : chkB N S W B = false ∧ chkE N S W B = 0 := by
  refine ⟨decide_eq_false (fun k => by rw [hh] at k; exact absurd k.2.2.1 (by decide)), ?_⟩
  unfold chkE; rw [if_pos h, if_pos hB, if_neg (by rw [hh]; decide)]
theorem chk15 {N : Net} {S : List Int} {W : List (List Int)} {B : Int} (h : netOk N = true) (hB : 1 ≤ B ∧ B ≤ 1048576) (hh : holdB N S W = true) (hf : findE (subN N S) false B = 15) : chkB N S W B = false ∧ chkE N S W B = 15 := by
  refine ⟨decide_eq_false fun k => by have := k.2.2.2; omega, ?_⟩
  unfold chkE; rw [if_pos h, if_pos hB, if_pos hh, if_pos hf]
theorem chk0 {N : Net} {S : List Int} {W : List (List Int)} {B : Int} (h : netOk N = true) (hB : 1 ≤ B ∧ B ≤ 1048576) (hh : holdB N S W = true) (hf : ¬ findE (subN N S) false B = 15) : chkB N S W B = decide (findE (subN N S) false B = 14) ∧ chkE N S W B = 0 := by
  refine ⟨by unfold chkB; congr 1; simp [h, hB, hh], ?_⟩
  unfold chkE; rw [if_pos h, if_pos hB, if_pos hh, if_neg hf]

set_option maxHeartbeats 2000000 in
set_option maxRecDepth 100000 in
theorem con_Check_ok (N : Net) (A : NetA) (lo hi : Nat) (S : List Int) (as_ : Option Addr) (cs ls hs : Nat) (rows : List Rw) (aw : Option Addr) (cw lw hw_ : Nat) (B : Int) (w : World) (hN : NetIn lo hi w N A) (hS : Ints ls hs w as_ S) (hcs : S.length ≤ cs) (hsn : (S.length : Int) ≤ 9223372036854775807) (hW : WitIn lw hw_ w aw rows) (hwn : (rows.length : Int) ≤ 9223372036854775807)  : Cal Try.prog 32 [netV N A, .agg #[.slice as_ S.length cs, .slice aw rows.length cw], .int .i64 B] w ((fun v w' => v = .tuple #[.bool (chkB N S (rows.map Rw.l) B), .int .i64 (chkE N S (rows.map Rw.l) B)] ∧ Ext w w')) := by
  replace hN := hN.full
  replace hS := Ints.full hS
  replace hW : WitIn 0 w.heap.size w aw rows := ⟨Sl.full (fun _ => by simp [encRw]) hW.tb, fun r hr => Ints.full (hW.row r hr)⟩
  have hE : Out 0 0 w w := Out.refl _ _ w
  refine enter Try.func32 rfl Try.ntmps32 rfl ?_
  refine wp_seq ?_
  refine rg ?_
  refine sd (d_boxA rfl ?_)
  intro b3 w1 hbb3 hs3 ho2 hb3
  have hz4 := ho2.size
  replace hN := hN.ext ho2
  replace hS := hS.ext ho2
  replace hW := hW.ext ho2
  replace hE := hE.step ho2 (.inl (Nat.le_refl _))
  refine sd (d_boxA rfl ?_)
  intro b4 w5 hbb4 hs7 ho6 hb4
  have hz8 := ho6.size
  replace hN := hN.ext ho6
  replace hS := hS.ext ho6
  replace hW := hW.ext ho6
  replace hE := hE.step ho6 (.inl (Nat.le_refl _))
  replace hb3 := hb3.ext ho6
  refine st (asB rfl) ?_
  refine st (asI rfl) ?_
  refine rg_end ?_
  refine n_then ?_
  refine wp_seq ?_
  refine wp_seq ?_
  refine rg ?_
  refine st (y_lbN hb3 agg26 rfl) ?_
  refine sc cl34 (network_Check_ok N A _ _ _ hN) rfl ?_
  rintro v13 w9 ⟨rfl, ho10⟩
  have hz14 := ho10.size
  replace hN := hN.ext ho10
  replace hS := hS.ext ho10
  replace hW := hW.ext ho10
  replace hE := hE.step ho10 (.inl (Nat.le_refl _))
  replace hb3 := hb3.ext ho10
  replace hb4 := hb4.ext ho10
  refine st (y_not rfl) ?_
  refine rg_end ?_
  refine n_then ?_
  refine cnd rfl (fun hc0 => ?_) (fun hc0 => ?_)
  ·
    try simp only [decide_eq_true_eq, decide_eq_false_iff_not, Bool.not_eq_true', Bool.not_eq_false', Bool.and_eq_true, Bool.or_eq_true, Bool.or_eq_false_iff, Bool.cond_true_right, Bool.cond_false_right, Bool.cond_true_left, Bool.cond_false_left, ne_eq, Decidable.not_not, bne_iff_ne, beq_iff_eq, beq_eq_false_iff_ne, Bool.not_true, Bool.not_false] at hc0
    obtain ⟨q1, q2⟩ := chk1 (S := S) (W := rows.map Rw.l) (B := B) hc0
    refine wp_seq ?_
    refine rg ?_
    refine st (asB rfl) ?_
    refine st (asI rfl) ?_
    refine rg_end ?_
    refine n_then ?_
    refine wp_ret ?_
    refine r_then (ret2 (v := (.bool _)) (v' := (.int .i64 _)) Try.results32 rfl rfl ?_)
    rw [q1, q2]
    exact ⟨rfl, hE⟩
  ·
    try simp only [decide_eq_true_eq, decide_eq_false_iff_not, Bool.not_eq_true', Bool.not_eq_false', Bool.and_eq_true, Bool.or_eq_true, Bool.or_eq_false_iff, Bool.cond_true_right, Bool.cond_false_right, Bool.cond_true_left, Bool.cond_false_left, ne_eq, Decidable.not_not, bne_iff_ne, beq_iff_eq, beq_eq_false_iff_ne, Bool.not_true, Bool.not_false] at hc0
    have hok := netOk_iff.1 hc0
    have hac := hok.ac
    refine wp_skip ?_
    refine n_then ?_
    refine wp_seq ?_
    refine wp_seq ?_
    refine rg ?_
    refine st (mvI rfl) ?_
    refine st (y_lss rfl rfl) ?_
    refine st (mvB rfl) ?_
    refine gspL 19 rfl (fun hg15 => ?_) (fun hg15 => ?_)
    ·
      have hg15n := hg15; try simp only [decide_eq_true_eq, decide_eq_false_iff_not, Bool.not_eq_true', Bool.not_eq_false', Bool.and_eq_true, Bool.or_eq_true, Bool.or_eq_false_iff, Bool.cond_true_right, Bool.cond_false_right, Bool.cond_true_left, Bool.cond_false_left, ne_eq, Decidable.not_not, bne_iff_ne, beq_iff_eq, beq_eq_false_iff_ne, Bool.not_true, Bool.not_false] at hg15n
      refine sts rfl rfl hg15 ?_
      refine sts rfl rfl hg15 ?_
      refine st (y_pickT rfl hg15 (v := .bool _) rfl) ?_
      refine rg_end ?_
      refine n_then ?_
      refine cnd rfl (fun hc1 => ?_) (fun hc1 => absurd hc1 (by decide))
      obtain ⟨q1, q2⟩ := chk4 (S := S) (W := rows.map Rw.l) (B := B) hc0 (by omega)
      refine wp_seq ?_
      refine rg ?_
      refine st (asB rfl) ?_
      refine st (asI rfl) ?_
      refine rg_end ?_
      refine n_then ?_
      refine wp_ret ?_
      refine r_then (ret2 (v := (.bool _)) (v' := (.int .i64 _)) Try.results32 rfl rfl ?_)
      rw [q1, q2]
      exact ⟨rfl, hE⟩
    ·
      have hg15n := hg15; try simp only [decide_eq_true_eq, decide_eq_false_iff_not, Bool.not_eq_true', Bool.not_eq_false', Bool.and_eq_true, Bool.or_eq_true, Bool.or_eq_false_iff, Bool.cond_true_right, Bool.cond_false_right, Bool.cond_true_left, Bool.cond_false_left, ne_eq, Decidable.not_not, bne_iff_ne, beq_iff_eq, beq_eq_false_iff_ne, Bool.not_true, Bool.not_false] at hg15n
      refine stg rfl rfl hg15 (mvI rfl) ?_
      refine stg rfl rfl hg15 (y_gtr rfl rfl) ?_
      refine st (y_pickF rfl hg15 (v := .bool _) rfl) ?_
      refine rg_end ?_
      refine n_then ?_
      refine cnd rfl (fun hc1 => ?_) (fun hc1 => ?_)
      ·
        try simp only [decide_eq_true_eq, decide_eq_false_iff_not, Bool.not_eq_true', Bool.not_eq_false', Bool.and_eq_true, Bool.or_eq_true, Bool.or_eq_false_iff, Bool.cond_true_right, Bool.cond_false_right, Bool.cond_true_left, Bool.cond_false_left, ne_eq, Decidable.not_not, bne_iff_ne, beq_iff_eq, beq_eq_false_iff_ne, Bool.not_true, Bool.not_false] at hc1
        obtain ⟨q1, q2⟩ := chk4 (S := S) (W := rows.map Rw.l) (B := B) hc0 (by omega)
        refine wp_seq ?_
        refine rg ?_
        refine st (asB rfl) ?_
        refine st (asI rfl) ?_
        refine rg_end ?_
        refine n_then ?_
        refine wp_ret ?_
        refine r_then (ret2 (v := (.bool _)) (v' := (.int .i64 _)) Try.results32 rfl rfl ?_)
        rw [q1, q2]
        exact ⟨rfl, hE⟩
      ·
        try simp only [decide_eq_true_eq, decide_eq_false_iff_not, Bool.not_eq_true', Bool.not_eq_false', Bool.and_eq_true, Bool.or_eq_true, Bool.or_eq_false_iff, Bool.cond_true_right, Bool.cond_false_right, Bool.cond_true_left, Bool.cond_false_left, ne_eq, Decidable.not_not, bne_iff_ne, beq_iff_eq, beq_eq_false_iff_ne, Bool.not_true, Bool.not_false] at hc1
        have hB : 1 ≤ B ∧ B ≤ 1048576 := by omega
        refine wp_skip ?_
        refine n_then ?_
        refine wp_seq ?_
        refine wp_seq ?_
        refine rg ?_
        refine st (y_lbN hb3 agg26 rfl) ?_
        refine st (y_fld fld46_0 rfl) ?_
        refine st (y_lb hb4 na22 rfl rfl) ?_
        refine sc cl35 (contradiction_numbers_ok N A _ _ S _ _ _ _ _ hN hS hsn) rfl ?_
        rintro v20 w16 ⟨rfl, ho17⟩
        have hz21 := ho17.size
        replace hN := hN.ext ho17
        replace hS := hS.ext ho17
        replace hW := hW.ext ho17
        replace hE := hE.step ho17 (.inl (Nat.le_refl _))
        replace hb3 := hb3.ext ho17
        replace hb4 := hb4.ext ho17
        refine st (y_not rfl) ?_
        refine st (mvB rfl) ?_
        refine gspL 28 rfl (fun hg22 => ?_) (fun hg22 => ?_)
        ·
          have hg22n := hg22; try simp only [decide_eq_true_eq, decide_eq_false_iff_not, Bool.not_eq_true', Bool.not_eq_false', Bool.and_eq_true, Bool.or_eq_true, Bool.or_eq_false_iff, Bool.cond_true_right, Bool.cond_false_right, Bool.cond_true_left, Bool.cond_false_left, ne_eq, Decidable.not_not, bne_iff_ne, beq_iff_eq, beq_eq_false_iff_ne, Bool.not_true, Bool.not_false] at hg22n
          refine sts rfl rfl hg22 ?_
          refine sts rfl rfl hg22 ?_
          refine sts rfl rfl hg22 ?_
          refine sts rfl rfl hg22 ?_
          refine sts rfl rfl hg22 ?_
          refine sts rfl rfl hg22 ?_
          refine sts rfl rfl hg22 ?_
          refine st (y_pickT rfl hg22 (v := .bool _) rfl) ?_
          refine rg_end ?_
          refine n_then ?_
          refine cnd rfl (fun hc2 => ?_) (fun hc2 => absurd hc2 (by decide))
          have hh : holdB N S (rows.map Rw.l) = false := by first | exact hold_len hc2 | exact hold_asc (by assumption)
          obtain ⟨q1, q2⟩ := chkH (B := B) hc0 hB hh
          refine wp_seq ?_
          refine rg ?_
          refine st (asB rfl) ?_
          refine st (asI rfl) ?_
          refine rg_end ?_
          refine n_then ?_
          refine wp_ret ?_
          refine r_then (ret2 (v := (.bool _)) (v' := (.int .i64 _)) Try.results32 rfl rfl ?_)
          rw [q1, q2]
          exact ⟨rfl, hE⟩
        ·
          have hg22n := hg22; try simp only [decide_eq_true_eq, decide_eq_false_iff_not, Bool.not_eq_true', Bool.not_eq_false', Bool.and_eq_true, Bool.or_eq_true, Bool.or_eq_false_iff, Bool.cond_true_right, Bool.cond_false_right, Bool.cond_true_left, Bool.cond_false_left, ne_eq, Decidable.not_not, bne_iff_ne, beq_iff_eq, beq_eq_false_iff_ne, Bool.not_true, Bool.not_false] at hg22n
          refine stg rfl rfl hg22 (y_fld fld46_1 rfl) ?_
          refine stg rfl rfl hg22 (y_lb hb4 na44 rfl rfl) ?_
          refine stg rfl rfl hg22 (y_len Try.underlying44 rfl) ?_
          refine stg rfl rfl hg22 (y_fld fld46_0 rfl) ?_
          refine stg rfl rfl hg22 (y_lb hb4 na22 rfl rfl) ?_
          refine stg rfl rfl hg22 (y_len Try.underlying22 rfl) ?_
          refine stg rfl rfl hg22 (y_neq rfl rfl) ?_
          refine st (y_pickF rfl hg22 (v := .bool _) rfl) ?_
          refine rg_end ?_
          refine n_then ?_
          refine cnd rfl (fun hc2 => ?_) (fun hc2 => ?_)
          ·
            try simp only [decide_eq_true_eq, decide_eq_false_iff_not, Bool.not_eq_true', Bool.not_eq_false', Bool.and_eq_true, Bool.or_eq_true, Bool.or_eq_false_iff, Bool.cond_true_right, Bool.cond_false_right, Bool.cond_true_left, Bool.cond_false_left, ne_eq, Decidable.not_not, bne_iff_ne, beq_iff_eq, beq_eq_false_iff_ne, Bool.not_true, Bool.not_false] at hc2
            have hh : holdB N S (rows.map Rw.l) = false := by first | exact hold_len hc2 | exact hold_asc (by assumption)
            obtain ⟨q1, q2⟩ := chkH (B := B) hc0 hB hh
            refine wp_seq ?_
            refine rg ?_
            refine st (asB rfl) ?_
            refine st (asI rfl) ?_
            refine rg_end ?_
            refine n_then ?_
            refine wp_ret ?_
            refine r_then (ret2 (v := (.bool _)) (v' := (.int .i64 _)) Try.results32 rfl rfl ?_)
            rw [q1, q2]
            exact ⟨rfl, hE⟩
          ·
            try simp only [decide_eq_true_eq, decide_eq_false_iff_not, Bool.not_eq_true', Bool.not_eq_false', Bool.and_eq_true, Bool.or_eq_true, Bool.or_eq_false_iff, Bool.cond_true_right, Bool.cond_false_right, Bool.cond_true_left, Bool.cond_false_left, ne_eq, Decidable.not_not, bne_iff_ne, beq_iff_eq, beq_eq_false_iff_ne, Bool.not_true, Bool.not_false] at hc2
            have hasc : ascB N.acts.length (-1) S = true := by assumption
            have hsl := asc_len S (-1) hasc (by omega)
            have hrg : ∀ a ∈ S, 0 ≤ a ∧ a < N.acts.length := fun a ha => by have := asc_rng S (-1) hasc a ha; omega
            refine wp_skip ?_
            refine n_then ?_
            refine wp_seq ?_
            refine wp_seq ?_
            refine rg ?_
            refine st (y_fld fld46_1 rfl) ?_
            refine st (y_lb hb4 na44 rfl rfl) ?_
            refine st (y_len Try.underlying44 rfl) ?_
            refine st (mvI rfl) ?_
            refine rg_end ?_
            refine n_then ?_
            refine wp_block ?_
            refine lp (γ := Nat) [6, 7, 8, 9, 10, 40, 41, 42, 43, 44, 45, 46, 47, 48, 49, 50, 51, 52, 53, 54, 55, 56, 57, 58] (fun k => [(40, .int .i64 (k : Int))]) (fun k w_ => Ext w16 w_ ∧ (k : Int) ≤ rows.length ∧ ∀ j : Nat, j < k → feas (subN N (wo S j)) (el rows (j : Int)).l = true) (fun k => rows.length - k) 0 ⟨rfl, trivial⟩ ⟨Out.refl _ _ _, by omega, fun j hj => by omega⟩ ?_
            rintro k hav_ w23 ⟨ho24, hk, hall⟩
            have hlp0 := ho24
            have hz25 := ho24.size
            replace hN := hN.ext ho24
            replace hS := hS.ext ho24
            replace hW := hW.ext ho24
            replace hE := hE.step ho24 (.inl (Nat.le_refl _))
            replace hb3 := hb3.ext ho24
            replace hb4 := hb4.ext ho24
            refine wp_seq ?_
            refine rg ?_
            refine st (y_lss rfl rfl) ?_
            refine rg_end ?_
            refine n_then ?_
            refine wp_seq ?_
            refine cnd rfl (fun hc3 => ?_) (fun hc3 => ?_)
            ·
              try simp only [decide_eq_true_eq, decide_eq_false_iff_not, Bool.not_eq_true', Bool.not_eq_false', Bool.and_eq_true, Bool.or_eq_true, Bool.or_eq_false_iff, Bool.cond_true_right, Bool.cond_false_right, Bool.cond_true_left, Bool.cond_false_left, ne_eq, Decidable.not_not, bne_iff_ne, beq_iff_eq, beq_eq_false_iff_ne, Bool.not_true, Bool.not_false] at hc3
              have hrow := hW.row (el rows (k : Int)) (el_mem (by omega) (by omega))
              have hwl := wo_length (l := S) (i := k) (by omega)
              have hrk : ∀ a ∈ wo S k, 0 ≤ a ∧ a < N.acts.length := fun a ha => hrg a (wo_mem ha)
              refine wp_skip ?_
              refine n_then ?_
              refine wp_seq ?_
              refine wp_block ?_
              refine wp_seq ?_
              refine rg ?_
              refine st (mvI rfl) ?_
              refine st (y_ix hW.tb sl44 rfl (rfl) rfl (by omega) (by omega)) ?_
              refine st (y_le hW.tb na22 rfl (by omega) (by omega) rfl) ?_
              refine st (asI rfl) ?_
              refine st (asS rfl) ?_
              refine rg_end ?_
              refine n_then ?_
              refine wp_seq ?_
              refine rg ?_
              refine st (y_fld fld46_0 rfl) ?_
              refine st (y_lb hb4 na22 rfl rfl) ?_
              refine sc cl59 (clone_I_ok _ _ S _ _ _ hS (by omega)) rfl ?_
              rintro v30 w26 ⟨ax, cx, rfl, hX, ho27⟩
              have hz31 := ho27.size
              replace hN := hN.ext ho27
              replace hS := hS.ext ho27
              replace hW := hW.ext ho27
              replace hE := hE.step ho27 (.inl (Nat.le_refl _))
              replace hb3 := hb3.ext ho27
              replace hb4 := hb4.ext ho27
              replace hlp0 := hlp0.step ho27 (.inl (Nat.le_refl _))
              replace hrow := hrow.ext ho27
              refine st (mvI rfl) ?_
              refine st (mvI rfl) ?_
              refine st (y_add rfl rfl (by omega)) ?_
              have hXr := hX.rng
              refine sc cl58 (del_ok _ _ S _ _ k _ hX (by omega)) rfl ?_
              rintro v36 w32 ⟨rfl, hD, ho33⟩
              have hz37 := ho33.size
              replace hN := hN.out ho33 (by first | omega | (simp only [blk_some, hi1_some] at *; omega))
              replace hS := hS.out ho33 (by first | omega | (simp only [blk_some, hi1_some] at *; omega))
              replace hW := hW.out ho33 (by first | omega | (simp only [blk_some, hi1_some] at *; omega))
              replace hE := hE.step ho33 (by first | omega | (simp only [blk_some, hi1_some] at *; omega))
              replace hb3 := hb3.out ho33 (by first | omega | (simp only [blk_some, hi1_some] at *; omega))
              replace hb4 := hb4.out ho33 (by first | omega | (simp only [blk_some, hi1_some] at *; omega))
              replace hlp0 := hlp0.step ho33 (by first | omega | (simp only [blk_some, hi1_some] at *; omega))
              replace hrow := hrow.out ho33 (by first | omega | (simp only [blk_some, hi1_some] at *; omega))
              refine st (asS rfl) ?_
              refine rg_end ?_
              refine n_then ?_
              refine wp_seq ?_
              refine rg ?_
              refine st (y_lbN hb3 agg26 rfl) ?_
              refine st (mvS rfl) ?_
              refine sc cl36 (contradiction_subset_ok N A _ _ (wo S k) _ _ _ _ _ hN hD hok.ev (by omega) hrk) rfl ?_
              rintro v42 w38 ⟨A2, rfl, he2, ha2, ho39⟩
              have hM : NetIn _ _ _ (subN N (wo S k)) A2 := ⟨Ow.sl he2, Ow.sl ha2⟩
              clear he2 ha2
              have hz43 := ho39.size
              replace hN := hN.ext ho39
              replace hS := hS.ext ho39
              replace hW := hW.ext ho39
              replace hE := hE.step ho39 (.inl (Nat.le_refl _))
              replace hb3 := hb3.ext ho39
              replace hb4 := hb4.ext ho39
              replace hlp0 := hlp0.step ho39 (.inl (Nat.le_refl _))
              replace hrow := hrow.ext ho39
              replace hD := hD.ext ho39
              refine st (mvS rfl) ?_
              refine sc cl60 (network_Feasible_ok (subN N (wo S k)) A2 _ _ (el rows (k : Int)).l _ _ _ _ _ hM hrow) rfl ?_
              rintro v48 w44 ⟨rfl, ho45⟩
              have hz49 := ho45.size
              replace hN := hN.ext ho45
              replace hS := hS.ext ho45
              replace hW := hW.ext ho45
              replace hE := hE.step ho45 (.inl (Nat.le_refl _))
              replace hb3 := hb3.ext ho45
              replace hb4 := hb4.ext ho45
              replace hlp0 := hlp0.step ho45 (.inl (Nat.le_refl _))
              replace hrow := hrow.ext ho45
              replace hD := hD.ext ho45
              replace hM := hM.ext ho45
              refine st (y_not rfl) ?_
              refine rg_end ?_
              refine n_then ?_
              refine cnd rfl (fun hc4 => ?_) (fun hc4 => ?_)
              ·
                try simp only [decide_eq_true_eq, decide_eq_false_iff_not, Bool.not_eq_true', Bool.not_eq_false', Bool.and_eq_true, Bool.or_eq_true, Bool.or_eq_false_iff, Bool.cond_true_right, Bool.cond_false_right, Bool.cond_true_left, Bool.cond_false_left, ne_eq, Decidable.not_not, bne_iff_ne, beq_iff_eq, beq_eq_false_iff_ne, Bool.not_true, Bool.not_false] at hc4
                have hh := hold_at (N := N) (S := S) (rows := rows) (k := k) (by omega) (by omega) hc4
                obtain ⟨q1, q2⟩ := chkH (B := B) hc0 hB hh
                refine wp_seq ?_
                refine rg ?_
                refine st (asB rfl) ?_
                refine st (asI rfl) ?_
                refine rg_end ?_
                refine n_then ?_
                refine wp_ret ?_
                refine r_blk (r_then (r_then (r_blk (r_then (ret2 (v := (.bool _)) (v' := (.int .i64 _)) Try.results32 rfl rfl ?_)))))
                rw [q1, q2]
                exact ⟨rfl, hE⟩
              ·
                try simp only [decide_eq_true_eq, decide_eq_false_iff_not, Bool.not_eq_true', Bool.not_eq_false', Bool.and_eq_true, Bool.or_eq_true, Bool.or_eq_false_iff, Bool.cond_true_right, Bool.cond_false_right, Bool.cond_true_left, Bool.cond_false_left, ne_eq, Decidable.not_not, bne_iff_ne, beq_iff_eq, beq_eq_false_iff_ne, Bool.not_true, Bool.not_false] at hc4
                have hall1 : ∀ j : Nat, j < k + 1 → feas (subN N (wo S j)) (el rows (j : Int)).l = true := fun j hj => by
                  by_cases e : j = k
                  · subst e; exact hc4
                  · exact hall j (by omega)
                refine wp_skip ?_
                refine n_blk ?_
                refine n_then ?_
                refine rg ?_
                refine st (y_add rfl rfl (by omega)) ?_
                refine st (mvI rfl) ?_
                refine rg_end ?_
                exact n_then ⟨k + 1, _, rfl, same_lk rfl (same_h0), ⟨rfl, trivial⟩, ⟨hlp0, by omega, hall1⟩, by first | omega | (dsimp only; omega)⟩
            ·
              try simp only [decide_eq_true_eq, decide_eq_false_iff_not, Bool.not_eq_true', Bool.not_eq_false', Bool.and_eq_true, Bool.or_eq_true, Bool.or_eq_false_iff, Bool.cond_true_right, Bool.cond_false_right, Bool.cond_true_left, Bool.cond_false_left, ne_eq, Decidable.not_not, bne_iff_ne, beq_iff_eq, beq_eq_false_iff_ne, Bool.not_true, Bool.not_false] at hc3
              have hh := hold_all hasc hc2 (fun j hj => hall j (by omega))
              refine wp_exit ?_
              refine e_then (e_then (e_blk (?_)))
              refine n_then ?_
              refine wp_seq ?_
              refine rg ?_
              refine st (y_lbN hb3 agg26 rfl) ?_
              refine st (y_fld fld46_0 rfl) ?_
              refine st (y_lb hb4 na22 rfl rfl) ?_
              refine sc cl36 (contradiction_subset_ok N A _ _ S _ _ _ _ _ hN hS hok.ev (by omega) hrg) rfl ?_
              rintro v54 w50 ⟨A3, rfl, he2, ha2, ho51⟩
              have hM : NetIn _ _ _ (subN N S) A3 := ⟨Ow.sl he2, Ow.sl ha2⟩
              clear he2 ha2
              have hz55 := ho51.size
              replace hN := hN.ext ho51
              replace hS := hS.ext ho51
              replace hW := hW.ext ho51
              replace hE := hE.step ho51 (.inl (Nat.le_refl _))
              replace hb3 := hb3.ext ho51
              replace hb4 := hb4.ext ho51
              refine st (mvI rfl) ?_
              refine sc cl61 (search_Feasible_ok (subN N S) A3 _ _ B _ hM) rfl ?_
              rintro v60 w56 ⟨at1, ct1, rfl, hT1, ho57⟩
              have hz61 := ho57.size
              replace hN := hN.ext ho57
              replace hS := hS.ext ho57
              replace hW := hW.ext ho57
              replace hE := hE.step ho57 (.inl (Nat.le_refl _))
              replace hb3 := hb3.ext ho57
              replace hb4 := hb4.ext ho57
              replace hM := hM.ext ho57
              refine st (mvT rfl) ?_
              refine st (y_ext rfl rfl) ?_
              refine st (y_ext rfl rfl) ?_
              refine st (y_ext rfl rfl) ?_
              refine st (asS rfl) ?_
              refine st (asI rfl) ?_
              refine st (asI rfl) ?_
              refine rg_end ?_
              refine n_then ?_
              refine wp_seq ?_
              refine wp_seq ?_
              refine rg ?_
              refine st (mvI rfl) ?_
              refine st (y_eql rfl rfl) ?_
              refine rg_end ?_
              refine n_then ?_
              refine cnd rfl (fun hc5 => ?_) (fun hc5 => ?_)
              ·
                try simp only [decide_eq_true_eq, decide_eq_false_iff_not, Bool.not_eq_true', Bool.not_eq_false', Bool.and_eq_true, Bool.or_eq_true, Bool.or_eq_false_iff, Bool.cond_true_right, Bool.cond_false_right, Bool.cond_true_left, Bool.cond_false_left, ne_eq, Decidable.not_not, bne_iff_ne, beq_iff_eq, beq_eq_false_iff_ne, Bool.not_true, Bool.not_false] at hc5
                obtain ⟨q1, q2⟩ := chk15 hc0 hB hh hc5
                refine wp_seq ?_
                refine rg ?_
                refine st (mvI rfl) ?_
                refine st (asB rfl) ?_
                refine st (asI rfl) ?_
                refine rg_end ?_
                refine n_then ?_
                refine wp_ret ?_
                refine r_then (ret2 (v := (.bool _)) (v' := (.int .i64 _)) Try.results32 rfl rfl ?_)
                rw [q1, q2, hc5]
                exact ⟨rfl, hE⟩
              ·
                try simp only [decide_eq_true_eq, decide_eq_false_iff_not, Bool.not_eq_true', Bool.not_eq_false', Bool.and_eq_true, Bool.or_eq_true, Bool.or_eq_false_iff, Bool.cond_true_right, Bool.cond_false_right, Bool.cond_true_left, Bool.cond_false_left, ne_eq, Decidable.not_not, bne_iff_ne, beq_iff_eq, beq_eq_false_iff_ne, Bool.not_true, Bool.not_false] at hc5
                obtain ⟨q1, q2⟩ := chk0 hc0 hB hh hc5
                refine wp_skip ?_
                refine n_then ?_
                refine wp_seq ?_
                refine rg ?_
                refine st (mvI rfl) ?_
                refine st (y_eql rfl rfl) ?_
                refine st (asB rfl) ?_
                refine st (asI rfl) ?_
                refine rg_end ?_
                refine n_then ?_
                refine wp_ret ?_
                refine ret2 (v := (.bool _)) (v' := (.int .i64 _)) Try.results32 rfl rfl ?_
                rw [q1, q2]
                exact ⟨rfl, hE⟩

set_option maxHeartbeats 1000000 in
set_option maxRecDepth 100000 in
theorem ref17_Holds_ok (N : Net) (A : NetA) (lo hi : Nat) (S : List Int) (as_ : Option Addr) (cs ls hs : Nat) (rows : List Rw) (aw : Option Addr) (cw lw hw_ : Nat) (w : World) (hN : NetIn lo hi w N A) (hS : Ints ls hs w as_ S) (hcs : S.length ≤ cs) (hsn : (S.length : Int) ≤ 9223372036854775807) (hW : WitIn lw hw_ w aw rows) (hwn : (rows.length : Int) ≤ 9223372036854775807) (hok : NetOk N) : Cal Try.prog 69 [netV N A, .agg #[.slice as_ S.length cs, .slice aw rows.length cw]] w (fun v w' => v = .bool (holdB N S (rows.map Rw.l)) ∧ Ext w w') := by
  replace hN := hN.full
  replace hS := Ints.full hS
  replace hW : WitIn 0 w.heap.size w aw rows := ⟨Sl.full (fun _ => by simp [encRw]) hW.tb, fun r hr => Ints.full (hW.row r hr)⟩
  have hac := hok.ac
  have hE : Out 0 0 w w := Out.refl _ _ w
  refine enter Try.func69 rfl Try.ntmps69 rfl ?_
  refine wp_seq ?_
  refine rg ?_
  refine sd (d_boxA rfl ?_)
  intro b2 w1 hbb2 hs3 ho2 hb2
  have hz4 := ho2.size
  replace hN := hN.ext ho2
  replace hS := hS.ext ho2
  replace hW := hW.ext ho2
  replace hE := hE.step ho2 (.inl (Nat.le_refl _))
  refine sd (d_boxA rfl ?_)
  intro b3 w5 hbb3 hs7 ho6 hb3
  have hz8 := ho6.size
  replace hN := hN.ext ho6
  replace hS := hS.ext ho6
  replace hW := hW.ext ho6
  replace hE := hE.step ho6 (.inl (Nat.le_refl _))
  replace hb2 := hb2.ext ho6
  refine st (asB rfl) ?_
  refine rg_end ?_
  refine n_then ?_
  refine wp_seq ?_
  refine wp_seq ?_
  refine rg ?_
  refine st (y_fld fld46_0 rfl) ?_
  refine st (y_lb hb3 na22 rfl rfl) ?_
  refine st (y_fld fld26_2 rfl) ?_
  refine st (y_lb hb2 na24 rfl rfl) ?_
  refine st (y_len Try.underlying24 rfl) ?_
  refine st (y_sub rfl rfl (by omega)) ?_
  refine sc cl22 (ref17_AscN_ok S _ _ _ _ (N.acts.length : Int) _ hS hsn) rfl ?_
  rintro v13 w9 ⟨rfl, ho10⟩
  have hz14 := ho10.size
  replace hN := hN.ext ho10
  replace hS := hS.ext ho10
  replace hW := hW.ext ho10
  replace hE := hE.step ho10 (.inl (Nat.le_refl _))
  replace hb2 := hb2.ext ho10
  replace hb3 := hb3.ext ho10
  refine st (y_not rfl) ?_
  refine st (mvB rfl) ?_
  refine gspL 14 rfl (fun hg15 => ?_) (fun hg15 => ?_)
  ·
    have hg15n := hg15; try simp only [decide_eq_true_eq, decide_eq_false_iff_not, Bool.not_eq_true', Bool.not_eq_false', Bool.and_eq_true, Bool.or_eq_true, Bool.or_eq_false_iff, Bool.cond_true_right, Bool.cond_false_right, Bool.cond_true_left, Bool.cond_false_left, ne_eq, Decidable.not_not, bne_iff_ne, beq_iff_eq, beq_eq_false_iff_ne, Bool.not_true, Bool.not_false] at hg15n
    refine sts rfl rfl hg15 ?_
    refine sts rfl rfl hg15 ?_
    refine sts rfl rfl hg15 ?_
    refine sts rfl rfl hg15 ?_
    refine sts rfl rfl hg15 ?_
    refine sts rfl rfl hg15 ?_
    refine sts rfl rfl hg15 ?_
    refine st (y_pickT rfl hg15 (v := .bool _) rfl) ?_
    refine rg_end ?_
    refine n_then ?_
    refine cnd rfl (fun hc0 => ?_) (fun hc0 => absurd hc0 (by decide))
    have hh : holdB N S (rows.map Rw.l) = false := by first | exact hold_len hc0 | exact hold_asc (by assumption)
    refine wp_seq ?_
    refine rg ?_
    refine st (asB rfl) ?_
    refine rg_end ?_
    refine n_then ?_
    refine wp_ret ?_
    refine r_then (ret1 (v := (.bool _)) Try.results69 rfl ?_)
    rw [hh]
    exact ⟨rfl, hE⟩
  ·
    have hg15n := hg15; try simp only [decide_eq_true_eq, decide_eq_false_iff_not, Bool.not_eq_true', Bool.not_eq_false', Bool.and_eq_true, Bool.or_eq_true, Bool.or_eq_false_iff, Bool.cond_true_right, Bool.cond_false_right, Bool.cond_true_left, Bool.cond_false_left, ne_eq, Decidable.not_not, bne_iff_ne, beq_iff_eq, beq_eq_false_iff_ne, Bool.not_true, Bool.not_false] at hg15n
    refine stg rfl rfl hg15 (y_fld fld46_1 rfl) ?_
    refine stg rfl rfl hg15 (y_lb hb3 na44 rfl rfl) ?_
    refine stg rfl rfl hg15 (y_len Try.underlying44 rfl) ?_
    refine stg rfl rfl hg15 (y_fld fld46_0 rfl) ?_
    refine stg rfl rfl hg15 (y_lb hb3 na22 rfl rfl) ?_
    refine stg rfl rfl hg15 (y_len Try.underlying22 rfl) ?_
    refine stg rfl rfl hg15 (y_neq rfl rfl) ?_
    refine st (y_pickF rfl hg15 (v := .bool _) rfl) ?_
    refine rg_end ?_
    refine n_then ?_
    refine cnd rfl (fun hc0 => ?_) (fun hc0 => ?_)
    ·
      try simp only [decide_eq_true_eq, decide_eq_false_iff_not, Bool.not_eq_true', Bool.not_eq_false', Bool.and_eq_true, Bool.or_eq_true, Bool.or_eq_false_iff, Bool.cond_true_right, Bool.cond_false_right, Bool.cond_true_left, Bool.cond_false_left, ne_eq, Decidable.not_not, bne_iff_ne, beq_iff_eq, beq_eq_false_iff_ne, Bool.not_true, Bool.not_false] at hc0
      have hh : holdB N S (rows.map Rw.l) = false := by first | exact hold_len hc0 | exact hold_asc (by assumption)
      refine wp_seq ?_
      refine rg ?_
      refine st (asB rfl) ?_
      refine rg_end ?_
      refine n_then ?_
      refine wp_ret ?_
      refine r_then (ret1 (v := (.bool _)) Try.results69 rfl ?_)
      rw [hh]
      exact ⟨rfl, hE⟩
    ·
      try simp only [decide_eq_true_eq, decide_eq_false_iff_not, Bool.not_eq_true', Bool.not_eq_false', Bool.and_eq_true, Bool.or_eq_true, Bool.or_eq_false_iff, Bool.cond_true_right, Bool.cond_false_right, Bool.cond_true_left, Bool.cond_false_left, ne_eq, Decidable.not_not, bne_iff_ne, beq_iff_eq, beq_eq_false_iff_ne, Bool.not_true, Bool.not_false] at hc0
      have hasc : ascB N.acts.length (-1) S = true := by assumption
      have hsl := asc_len S (-1) hasc (by omega)
      have hrg : ∀ a ∈ S, 0 ≤ a ∧ a < N.acts.length := fun a ha => by have := asc_rng S (-1) hasc a ha; omega
      refine wp_skip ?_
      refine n_then ?_
      refine wp_seq ?_
      refine wp_seq ?_
      refine rg ?_
      refine st (asI rfl) ?_
      refine rg_end ?_
      refine n_then ?_
      refine wp_block ?_
      refine lp (γ := Nat) [4, 5, 23, 24, 25, 26, 27, 28, 29, 30, 31, 32, 33, 34, 35, 36, 37, 38, 39, 40, 41, 42] (fun k => [(5, .int .i64 (k : Int))]) (fun k w_ => Ext w9 w_ ∧ (k : Int) ≤ S.length ∧ ∀ j : Nat, j < k → feas (subN N (wo S j)) (el rows (j : Int)).l = true) (fun k => S.length - k) 0 ⟨rfl, trivial⟩ ⟨Out.refl _ _ _, by omega, fun j hj => by omega⟩ ?_
      rintro k hav_ w16 ⟨ho17, hk, hall⟩
      have hlp0 := ho17
      have hz18 := ho17.size
      replace hN := hN.ext ho17
      replace hS := hS.ext ho17
      replace hW := hW.ext ho17
      replace hE := hE.step ho17 (.inl (Nat.le_refl _))
      replace hb2 := hb2.ext ho17
      replace hb3 := hb3.ext ho17
      refine wp_seq ?_
      refine wp_seq ?_
      refine rg ?_
      refine st (mvI rfl) ?_
      refine st (y_fld fld46_0 rfl) ?_
      refine st (y_lb hb3 na22 rfl rfl) ?_
      refine st (y_len Try.underlying22 rfl) ?_
      refine st (y_lss rfl rfl) ?_
      refine rg_end ?_
      refine n_then ?_
      refine cnd rfl (fun hc1 => ?_) (fun hc1 => ?_)
      ·
        try simp only [decide_eq_true_eq, decide_eq_false_iff_not, Bool.not_eq_true', Bool.not_eq_false', Bool.and_eq_true, Bool.or_eq_true, Bool.or_eq_false_iff, Bool.cond_true_right, Bool.cond_false_right, Bool.cond_true_left, Bool.cond_false_left, ne_eq, Decidable.not_not, bne_iff_ne, beq_iff_eq, beq_eq_false_iff_ne, Bool.not_true, Bool.not_false] at hc1
        have hrow := hW.row (el rows (k : Int)) (el_mem (by omega) (by omega))
        have hwl := wo_length (l := S) (i := k) (by omega)
        have hrk : ∀ a ∈ wo S k, 0 ≤ a ∧ a < N.acts.length := fun a ha => hrg a (wo_mem ha)
        refine wp_skip ?_
        refine n_then ?_
        refine wp_seq ?_
        refine wp_block ?_
        refine wp_seq ?_
        refine rgD 11 (fun w_ => Ext w16 w_) (fun i => Nat.beq i 4 || Nat.beq i 5) mixed (by kernel_rfl) ?_
        intro w19 ho20 hs21
        refine ⟨ho20, ?_⟩
        have hx22 := ho20
        refine tn rfl (fun _ hG => y_lbN (hb2.ext hG) agg26 rfl) ?_
        refine tn rfl (fun _ hG => y_fld fld46_0 rfl) ?_
        refine tn rfl (fun _ hG => y_lb (hb3.ext hG) na22 rfl rfl) ?_
        refine tn rfl (fun _ hG => mvI rfl) ?_
        refine tc rfl cl24 (ref17_Without_ok S _ _ _ _ k _ (hS.ext hx22) hcs (by omega) (by omega)) rfl ?_
        rintro v27 w23 ⟨ax, cx, rfl, hcx, hX, ho24⟩
        have hx28 := hx22.step ho24 (.inl (Nat.le_refl _))
        have hz29 := ho24.size
        refine ⟨hx28, ?_⟩
        refine tc rfl cl46 (ref17_subset_ok N A _ _ (wo S k) _ _ _ _ _ (hN.ext hx28) (Ow.sl hX) hok.ev (by omega) hrk) rfl ?_
        rintro v34 w30 ⟨A2, rfl, he2, ha2, ho31⟩
        have hM : NetIn _ _ _ (subN N (wo S k)) A2 := ⟨Ow.sl he2, Ow.sl ha2⟩
        clear he2 ha2
        have hx35 := hx28.step ho31 (.inl (Nat.le_refl _))
        have hz36 := ho31.size
        replace hX := hX.ext ho31
        refine ⟨hx35, ?_⟩
        refine tn rfl (fun _ hG => y_fld fld46_1 rfl) ?_
        refine tn rfl (fun _ hG => y_lb (hb3.ext hG) na44 rfl rfl) ?_
        refine tn rfl (fun _ hG => mvI rfl) ?_
        refine tn rfl (fun _ hG => y_ix (hW.tb.ext hG) sl44 rfl (rfl) rfl (by omega) (by omega)) ?_
        refine tn rfl (fun _ hG => y_le (hW.tb.ext hG) na22 rfl (by omega) (by omega) rfl) ?_
        refine t_end ?_
        have hz37 := hx35.size
        replace hN := hN.ext hx35
        replace hS := hS.ext hx35
        replace hW := hW.ext hx35
        replace hE := hE.step hx35 (.inl (Nat.le_refl _))
        replace hb2 := hb2.ext hx35
        replace hb3 := hb3.ext hx35
        replace hlp0 := hlp0.step hx35 (.inl (Nat.le_refl _))
        replace hrow := hrow.ext hx35
        refine sc cl17 (ref11_Feasible_ok (subN N (wo S k)) A2 _ _ (el rows (k : Int)).l _ _ _ _ _ hM hrow) rfl ?_
        rintro v42 w38 ⟨rfl, ho39⟩
        have hz43 := ho39.size
        replace hN := hN.ext ho39
        replace hS := hS.ext ho39
        replace hW := hW.ext ho39
        replace hE := hE.step ho39 (.inl (Nat.le_refl _))
        replace hb2 := hb2.ext ho39
        replace hb3 := hb3.ext ho39
        replace hlp0 := hlp0.step ho39 (.inl (Nat.le_refl _))
        replace hrow := hrow.ext ho39
        replace hX := hX.ext ho39
        replace hM := hM.ext ho39
        refine st (y_not rfl) ?_
        refine rg_end ?_
        refine n_then ?_
        refine cnd rfl (fun hc2 => ?_) (fun hc2 => ?_)
        ·
          try simp only [decide_eq_true_eq, decide_eq_false_iff_not, Bool.not_eq_true', Bool.not_eq_false', Bool.and_eq_true, Bool.or_eq_true, Bool.or_eq_false_iff, Bool.cond_true_right, Bool.cond_false_right, Bool.cond_true_left, Bool.cond_false_left, ne_eq, Decidable.not_not, bne_iff_ne, beq_iff_eq, beq_eq_false_iff_ne, Bool.not_true, Bool.not_false] at hc2
          have hh := hold_at (N := N) (S := S) (rows := rows) (k := k) (by omega) (by omega) hc2
          refine wp_seq ?_
          refine rg ?_
          refine st (asB rfl) ?_
          refine rg_end ?_
          refine n_then ?_
          refine wp_ret ?_
          refine r_blk (r_then (r_then (r_blk (r_then (ret1 (v := (.bool _)) Try.results69 rfl ?_)))))
          rw [hh]
          exact ⟨rfl, hE⟩
        ·
          try simp only [decide_eq_true_eq, decide_eq_false_iff_not, Bool.not_eq_true', Bool.not_eq_false', Bool.and_eq_true, Bool.or_eq_true, Bool.or_eq_false_iff, Bool.cond_true_right, Bool.cond_false_right, Bool.cond_true_left, Bool.cond_false_left, ne_eq, Decidable.not_not, bne_iff_ne, beq_iff_eq, beq_eq_false_iff_ne, Bool.not_true, Bool.not_false] at hc2
          have hall1 : ∀ j : Nat, j < k + 1 → feas (subN N (wo S j)) (el rows (j : Int)).l = true := fun j hj => by
            by_cases e : j = k
            · subst e; exact hc2
            · exact hall j (by omega)
          refine wp_skip ?_
          refine n_blk ?_
          refine n_then ?_
          refine rg ?_
          refine st (mvI rfl) ?_
          refine st (y_add rfl rfl (by omega)) ?_
          refine st (asI rfl) ?_
          refine rg_end ?_
          exact n_then ⟨k + 1, _, rfl, same_lk rfl (same_h0), ⟨rfl, trivial⟩, ⟨hlp0, by omega, hall1⟩, by first | omega | (dsimp only; omega)⟩
      ·
        try simp only [decide_eq_true_eq, decide_eq_false_iff_not, Bool.not_eq_true', Bool.not_eq_false', Bool.and_eq_true, Bool.or_eq_true, Bool.or_eq_false_iff, Bool.cond_true_right, Bool.cond_false_right, Bool.cond_true_left, Bool.cond_false_left, ne_eq, Decidable.not_not, bne_iff_ne, beq_iff_eq, beq_eq_false_iff_ne, Bool.not_true, Bool.not_false] at hc1
        have hh := hold_all hasc hc0 (fun j hj => hall j (by omega))
        refine wp_exit ?_
        refine e_then (e_then (e_blk (?_)))
        refine n_then ?_
        refine wp_seq ?_
        refine rg ?_
        refine st (asB rfl) ?_
        refine rg_end ?_
        refine n_then ?_
        refine wp_ret ?_
        refine ret1 (v := (.bool _)) Try.results69 rfl ?_
        rw [hh]
        exact ⟨rfl, hE⟩

set_option maxHeartbeats 1000000 in
set_option maxRecDepth 100000 in
theorem ref17_Check_ok (N : Net) (A : NetA) (lo hi : Nat) (S : List Int) (as_ : Option Addr) (cs ls hs : Nat) (rows : List Rw) (aw : Option Addr) (cw lw hw_ : Nat) (B : Int) (w : World) (hN : NetIn lo hi w N A) (hS : Ints ls hs w as_ S) (hcs : S.length ≤ cs) (hsn : (S.length : Int) ≤ 9223372036854775807) (hW : WitIn lw hw_ w aw rows) (hwn : (rows.length : Int) ≤ 9223372036854775807)  : Cal Try.prog 56 [netV N A, .agg #[.slice as_ S.length cs, .slice aw rows.length cw], .int .i64 B] w ((fun v w' => v = .tuple #[.bool (chkB N S (rows.map Rw.l) B), .int .i64 (chkE N S (rows.map Rw.l) B)] ∧ Ext w w')) := by
  replace hN := hN.full
  replace hS := Ints.full hS
  replace hW : WitIn 0 w.heap.size w aw rows := ⟨Sl.full (fun _ => by simp [encRw]) hW.tb, fun r hr => Ints.full (hW.row r hr)⟩
  have hE : Out 0 0 w w := Out.refl _ _ w
  refine enter Try.func56 rfl Try.ntmps56 rfl ?_
  refine wp_seq ?_
  refine rg ?_
  refine sd (d_boxA rfl ?_)
  intro b3 w1 hbb3 hs3 ho2 hb3
  have hz4 := ho2.size
  replace hN := hN.ext ho2
  replace hS := hS.ext ho2
  replace hW := hW.ext ho2
  replace hE := hE.step ho2 (.inl (Nat.le_refl _))
  refine sd (d_boxA rfl ?_)
  intro b4 w5 hbb4 hs7 ho6 hb4
  have hz8 := ho6.size
  replace hN := hN.ext ho6
  replace hS := hS.ext ho6
  replace hW := hW.ext ho6
  replace hE := hE.step ho6 (.inl (Nat.le_refl _))
  replace hb3 := hb3.ext ho6
  refine st (asB rfl) ?_
  refine st (asI rfl) ?_
  refine rg_end ?_
  refine n_then ?_
  refine wp_seq ?_
  refine wp_seq ?_
  refine rg ?_
  refine st (y_lbN hb3 agg26 rfl) ?_
  refine sc cl45 (ref11_Check_ok N A _ _ _ hN) rfl ?_
  rintro v13 w9 ⟨rfl, ho10⟩
  have hz14 := ho10.size
  replace hN := hN.ext ho10
  replace hS := hS.ext ho10
  replace hW := hW.ext ho10
  replace hE := hE.step ho10 (.inl (Nat.le_refl _))
  replace hb3 := hb3.ext ho10
  replace hb4 := hb4.ext ho10
  refine st (y_not rfl) ?_
  refine rg_end ?_
  refine n_then ?_
  refine cnd rfl (fun hc0 => ?_) (fun hc0 => ?_)
  ·
    try simp only [decide_eq_true_eq, decide_eq_false_iff_not, Bool.not_eq_true', Bool.not_eq_false', Bool.and_eq_true, Bool.or_eq_true, Bool.or_eq_false_iff, Bool.cond_true_right, Bool.cond_false_right, Bool.cond_true_left, Bool.cond_false_left, ne_eq, Decidable.not_not, bne_iff_ne, beq_iff_eq, beq_eq_false_iff_ne, Bool.not_true, Bool.not_false] at hc0
    obtain ⟨q1, q2⟩ := chk1 (S := S) (W := rows.map Rw.l) (B := B) hc0
    refine wp_seq ?_
    refine rg ?_
    refine st (asB rfl) ?_
    refine st (asI rfl) ?_
    refine rg_end ?_
    refine n_then ?_
    refine wp_ret ?_
    refine r_then (ret2 (v := (.bool _)) (v' := (.int .i64 _)) Try.results56 rfl rfl ?_)
    rw [q1, q2]
    exact ⟨rfl, hE⟩
  ·
    try simp only [decide_eq_true_eq, decide_eq_false_iff_not, Bool.not_eq_true', Bool.not_eq_false', Bool.and_eq_true, Bool.or_eq_true, Bool.or_eq_false_iff, Bool.cond_true_right, Bool.cond_false_right, Bool.cond_true_left, Bool.cond_false_left, ne_eq, Decidable.not_not, bne_iff_ne, beq_iff_eq, beq_eq_false_iff_ne, Bool.not_true, Bool.not_false] at hc0
    have hok := netOk_iff.1 hc0
    have hac := hok.ac
    refine wp_skip ?_
    refine n_then ?_
    refine wp_seq ?_
    refine wp_seq ?_
    refine rg ?_
    refine st (mvI rfl) ?_
    refine sc cl44 (ref17_in_ok _ _ _ _) rfl ?_
    rintro v19 w15 ⟨rfl, ho16⟩
    have hz20 := ho16.size
    replace hN := hN.ext ho16
    replace hS := hS.ext ho16
    replace hW := hW.ext ho16
    replace hE := hE.step ho16 (.inl (Nat.le_refl _))
    replace hb3 := hb3.ext ho16
    replace hb4 := hb4.ext ho16
    refine st (y_not rfl) ?_
    refine rg_end ?_
    refine n_then ?_
    refine cnd rfl (fun hc1 => ?_) (fun hc1 => ?_)
    ·
      try simp only [decide_eq_true_eq, decide_eq_false_iff_not, Bool.not_eq_true', Bool.not_eq_false', Bool.and_eq_true, Bool.or_eq_true, Bool.or_eq_false_iff, Bool.cond_true_right, Bool.cond_false_right, Bool.cond_true_left, Bool.cond_false_left, ne_eq, Decidable.not_not, bne_iff_ne, beq_iff_eq, beq_eq_false_iff_ne, Bool.not_true, Bool.not_false] at hc1
      obtain ⟨q1, q2⟩ := chk4 (S := S) (W := rows.map Rw.l) (B := B) hc0 (by omega)
      refine wp_seq ?_
      refine rg ?_
      refine st (asB rfl) ?_
      refine st (asI rfl) ?_
      refine rg_end ?_
      refine n_then ?_
      refine wp_ret ?_
      refine r_then (ret2 (v := (.bool _)) (v' := (.int .i64 _)) Try.results56 rfl rfl ?_)
      rw [q1, q2]
      exact ⟨rfl, hE⟩
    ·
      try simp only [decide_eq_true_eq, decide_eq_false_iff_not, Bool.not_eq_true', Bool.not_eq_false', Bool.and_eq_true, Bool.or_eq_true, Bool.or_eq_false_iff, Bool.cond_true_right, Bool.cond_false_right, Bool.cond_true_left, Bool.cond_false_left, ne_eq, Decidable.not_not, bne_iff_ne, beq_iff_eq, beq_eq_false_iff_ne, Bool.not_true, Bool.not_false] at hc1
      have hB : 1 ≤ B ∧ B ≤ 1048576 := by omega
      refine wp_skip ?_
      refine n_then ?_
      refine wp_seq ?_
      refine wp_seq ?_
      refine rg ?_
      refine st (y_lbN hb3 agg26 rfl) ?_
      refine st (y_lbN hb4 agg46 rfl) ?_
      refine sc cl69 (ref17_Holds_ok N A _ _ S _ _ _ _ rows _ _ _ _ _ hN hS hcs hsn hW hwn hok) rfl ?_
      rintro v25 w21 ⟨rfl, ho22⟩
      have hz26 := ho22.size
      replace hN := hN.ext ho22
      replace hS := hS.ext ho22
      replace hW := hW.ext ho22
      replace hE := hE.step ho22 (.inl (Nat.le_refl _))
      replace hb3 := hb3.ext ho22
      replace hb4 := hb4.ext ho22
      refine st (y_not rfl) ?_
      refine rg_end ?_
      refine n_then ?_
      refine cnd rfl (fun hc2 => ?_) (fun hc2 => ?_)
      ·
        try simp only [decide_eq_true_eq, decide_eq_false_iff_not, Bool.not_eq_true', Bool.not_eq_false', Bool.and_eq_true, Bool.or_eq_true, Bool.or_eq_false_iff, Bool.cond_true_right, Bool.cond_false_right, Bool.cond_true_left, Bool.cond_false_left, ne_eq, Decidable.not_not, bne_iff_ne, beq_iff_eq, beq_eq_false_iff_ne, Bool.not_true, Bool.not_false] at hc2
        obtain ⟨q1, q2⟩ := chkH (B := B) hc0 hB hc2
        refine wp_seq ?_
        refine rg ?_
        refine st (asB rfl) ?_
        refine st (asI rfl) ?_
        refine rg_end ?_
        refine n_then ?_
        refine wp_ret ?_
        refine r_then (ret2 (v := (.bool _)) (v' := (.int .i64 _)) Try.results56 rfl rfl ?_)
        rw [q1, q2]
        exact ⟨rfl, hE⟩
      ·
        try simp only [decide_eq_true_eq, decide_eq_false_iff_not, Bool.not_eq_true', Bool.not_eq_false', Bool.and_eq_true, Bool.or_eq_true, Bool.or_eq_false_iff, Bool.cond_true_right, Bool.cond_false_right, Bool.cond_true_left, Bool.cond_false_left, ne_eq, Decidable.not_not, bne_iff_ne, beq_iff_eq, beq_eq_false_iff_ne, Bool.not_true, Bool.not_false] at hc2
        have hasc := (hold_iff.1 hc2).1
        have hsl := asc_len S (-1) hasc (by omega)
        have hrg : ∀ a ∈ S, 0 ≤ a ∧ a < N.acts.length := fun a ha => by have := asc_rng S (-1) hasc a ha; omega
        refine wp_skip ?_
        refine n_then ?_
        refine wp_seq ?_
        refine rg ?_
        refine st (y_lbN hb3 agg26 rfl) ?_
        refine st (y_fld fld46_0 rfl) ?_
        refine st (y_lb hb4 na22 rfl rfl) ?_
        refine sc cl46 (ref17_subset_ok N A _ _ S _ _ _ _ _ hN hS hok.ev (by omega) hrg) rfl ?_
        rintro v31 w27 ⟨A3, rfl, he2, ha2, ho28⟩
        have hM : NetIn _ _ _ (subN N S) A3 := ⟨Ow.sl he2, Ow.sl ha2⟩
        clear he2 ha2
        have hz32 := ho28.size
        replace hN := hN.ext ho28
        replace hS := hS.ext ho28
        replace hW := hW.ext ho28
        replace hE := hE.step ho28 (.inl (Nat.le_refl _))
        replace hb3 := hb3.ext ho28
        replace hb4 := hb4.ext ho28
        refine st (mvI rfl) ?_
        refine sc cl25 (ref17_Feasible_ok (subN N S) A3 _ _ B _ hM) rfl ?_
        rintro v37 w33 ⟨at1, ct1, rfl, hT1, ho34⟩
        have hz38 := ho34.size
        replace hN := hN.ext ho34
        replace hS := hS.ext ho34
        replace hW := hW.ext ho34
        replace hE := hE.step ho34 (.inl (Nat.le_refl _))
        replace hb3 := hb3.ext ho34
        replace hb4 := hb4.ext ho34
        replace hM := hM.ext ho34
        refine st (mvT rfl) ?_
        refine st (y_ext rfl rfl) ?_
        refine st (y_ext rfl rfl) ?_
        refine st (y_ext rfl rfl) ?_
        refine st (asS rfl) ?_
        refine st (asI rfl) ?_
        refine st (asI rfl) ?_
        refine rg_end ?_
        refine n_then ?_
        refine wp_seq ?_
        refine wp_seq ?_
        refine rg ?_
        refine st (mvI rfl) ?_
        refine st (y_eql rfl rfl) ?_
        refine rg_end ?_
        refine n_then ?_
        refine cnd rfl (fun hc3 => ?_) (fun hc3 => ?_)
        ·
          try simp only [decide_eq_true_eq, decide_eq_false_iff_not, Bool.not_eq_true', Bool.not_eq_false', Bool.and_eq_true, Bool.or_eq_true, Bool.or_eq_false_iff, Bool.cond_true_right, Bool.cond_false_right, Bool.cond_true_left, Bool.cond_false_left, ne_eq, Decidable.not_not, bne_iff_ne, beq_iff_eq, beq_eq_false_iff_ne, Bool.not_true, Bool.not_false] at hc3
          obtain ⟨q1, q2⟩ := chk15 hc0 hB hc2 hc3
          refine wp_seq ?_
          refine rg ?_
          refine st (mvI rfl) ?_
          refine st (asB rfl) ?_
          refine st (asI rfl) ?_
          refine rg_end ?_
          refine n_then ?_
          refine wp_ret ?_
          refine r_then (ret2 (v := (.bool _)) (v' := (.int .i64 _)) Try.results56 rfl rfl ?_)
          rw [q1, q2, hc3]
          exact ⟨rfl, hE⟩
        ·
          try simp only [decide_eq_true_eq, decide_eq_false_iff_not, Bool.not_eq_true', Bool.not_eq_false', Bool.and_eq_true, Bool.or_eq_true, Bool.or_eq_false_iff, Bool.cond_true_right, Bool.cond_false_right, Bool.cond_true_left, Bool.cond_false_left, ne_eq, Decidable.not_not, bne_iff_ne, beq_iff_eq, beq_eq_false_iff_ne, Bool.not_true, Bool.not_false] at hc3
          obtain ⟨q1, q2⟩ := chk0 hc0 hB hc2 hc3
          refine wp_skip ?_
          refine n_then ?_
          refine wp_seq ?_
          refine rg ?_
          refine st (mvI rfl) ?_
          refine st (y_eql rfl rfl) ?_
          refine st (asB rfl) ?_
          refine st (asI rfl) ?_
          refine rg_end ?_
          refine n_then ?_
          refine wp_ret ?_
          refine ret2 (v := (.bool _)) (v' := (.int .i64 _)) Try.results56 rfl rfl ?_
          rw [q1, q2]
          exact ⟨rfl, hE⟩
end Go.Proofs.Ytclligkngjhihaa
