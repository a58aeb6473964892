/-
  Walks of the functions, printed by a program out of the code and the loops' relations.
-/
import Derived.Test.YteicgnmggkhlbaaWkD
import Derived.Test.YteicgnmggkhlbaaProg
import Derived.KernelRfl
import Derived.Test.YteicgnmggkhlbaaP2
namespace Go.Proofs.Yteicgnmggkhlbaa
open Go.Wk Go.RowKit
set_option linter.unusedVariables false
set_option linter.unusedSimpArgs false
theorem cl26 : Callable Try.prog 26 := ⟨Try.call26⟩
theorem cl46 : Callable Try.prog 46 := ⟨Try.call46⟩

/-- Positions that fit the paths; the section that a train holds; whether two hold one. -/
structure GoP (rows : List Pw) (at_ : List Int) : Prop where
  len : at_.length = rows.length
  rng : ∀ t : Nat, t < rows.length → -1 ≤ el at_ (t : Int) ∧ el at_ (t : Int) ≤ (el rows (t : Int)).st.length
def secT (rows : List Pw) (at_ : List Int) (t : Int) : Int := if el at_ t < 0 ∨ (el rows t).st.length ≤ el at_ t then -1 else (el (el rows t).st (el at_ t)).sec
def leftB (rows : List Pw) (at_ : List Int) : Bool := (List.range rows.length).all fun (t : Nat) => decide ((el rows (t : Int)).st.length ≤ el at_ (t : Int))
/-- The first other train that holds the section of the next stage, or -1. -/
def blkT (rows : List Pw) (at_ : List Int) (t : Int) : Nat → Int
  | 0 => -1
  | k + 1 => if blkT rows at_ t k = -1 ∧ (k : Int) ≠ t ∧ secT rows at_ (k : Int) = (el (el rows t).st (el at_ t + 1)).sec then (k : Int) else blkT rows at_ t k
def blocT (rows : List Pw) (at_ : List Int) (t : Int) : Int := if (el rows t).st.length ≤ el at_ t + 1 then -1 else blkT rows at_ t rows.length
def movB (rows : List Pw) (at_ : List Int) (t : Int) : Bool := decide (el at_ t < (el rows t).st.length) && decide (blocT rows at_ t < 0)
def Hel (rows : List Pw) (at_ : List Int) : Prop := ∃ t u : Nat, t < rows.length ∧ u < t ∧ 0 ≤ secT rows at_ (t : Int) ∧ secT rows at_ (t : Int) = secT rows at_ (u : Int)
theorem blkT_rng {rows : List Pw} {at_ : List Int} {t : Int} : ∀ k : Nat, blkT rows at_ t k = -1 ∨ (0 ≤ blkT rows at_ t k ∧ blkT rows at_ t k < k)
  | 0 => .inl rfl
  | k + 1 => by
    have := blkT_rng (rows := rows) (at_ := at_) (t := t) k
    unfold blkT; split <;> omega
theorem blkT_keep {rows : List Pw} {at_ : List Int} {t : Int} {k : Nat} (h : blkT rows at_ t k ≠ -1) : ∀ m : Nat, k ≤ m → blkT rows at_ t m = blkT rows at_ t k := by
  intro m hm
  induction m with
  | zero => have : k = 0 := by omega
            subst this; rfl
  | succ m ih =>
    by_cases e : k = m + 1
    · subst e; rfl
    · have := ih (by omega)
      rw [blkT, this, if_neg (fun q => h q.1)]
structure CkR (rows : List Pw) (at_ : List Int) (e : Int) : Prop where
  a : ¬ (VaP rows ∧ GoP rows at_) → e = 1
  b : VaP rows → GoP rows at_ → Hel rows at_ → e = 17
  c : VaP rows → GoP rows at_ → ¬ Hel rows at_ → e = 0
theorem CkR.uniq {rows : List Pw} {at_ : List Int} {e e' : Int} (h : CkR rows at_ e) (k : CkR rows at_ e') : e = e' := by
  by_cases h1 : VaP rows ∧ GoP rows at_
  · by_cases h2 : Hel rows at_
    · rw [h.b h1.1 h1.2 h2, k.b h1.1 h1.2 h2]
    · rw [h.c h1.1 h1.2 h2, k.c h1.1 h1.2 h2]
  · rw [h.a h1, k.a h1]

set_option maxHeartbeats 1000000 in
set_option maxRecDepth 100000 in
theorem ref35_Good_ok (rows : List Pw) (ap : Option Addr) (cp l_ h_ : Nat) (at_ : List Int) (aa : Option Addr) (ca la ha_ : Nat) (w : World) (hP : PIn l_ h_ w ap rows) (hpn : (rows.length : Int) ≤ 9223372036854775807) (hA : Ints la ha_ w aa at_) (han : (at_.length : Int) ≤ 9223372036854775807) : Cal Try.prog 36 [.slice ap rows.length cp, .slice aa at_.length ca] w (fun v w' => ∃ b, v = .bool b ∧ (b = true ↔ GoP rows at_) ∧ Ext w w') := by
  replace hP := hP.full
  replace hA := Ints.full hA
  have hE : Out 0 0 w w := Out.refl _ _ w
  refine enter Try.func36 rfl Try.ntmps36 rfl ?_
  refine wp_seq ?_
  refine rg ?_
  refine st (asB rfl) ?_
  refine rg_end ?_
  refine n_then ?_
  refine wp_seq ?_
  refine wp_seq ?_
  refine rg ?_
  refine st (mvS rfl) ?_
  refine st (y_len Try.underlying22 rfl) ?_
  refine st (mvS rfl) ?_
  refine st (y_len Try.underlying23 rfl) ?_
  refine st (y_neq rfl rfl) ?_
  refine rg_end ?_
  refine n_then ?_
  refine cnd rfl (fun hc0 => ?_) (fun hc0 => ?_)
  ·
    try simp only [decide_eq_true_eq, decide_eq_false_iff_not, Bool.not_eq_true', Bool.not_eq_false', Bool.and_eq_true, Bool.or_eq_true, Bool.or_eq_false_iff, Bool.cond_true_right, Bool.cond_false_right, Bool.cond_true_left, Bool.cond_false_left, ne_eq, Decidable.not_not, bne_iff_ne, beq_iff_eq, beq_eq_false_iff_ne, Bool.not_true, Bool.not_false] at hc0
    have hno : ¬ GoP rows at_ := fun h => by have := h.len; omega
    refine wp_seq ?_
    refine rg ?_
    refine st (asB rfl) ?_
    refine rg_end ?_
    refine n_then ?_
    refine wp_ret ?_
    refine r_then (ret1 (v := (.bool _)) Try.results36 rfl ?_)
    exact ⟨false, rfl, ⟨fun h => (by cases h), fun h => absurd h hno⟩, hE⟩
  ·
    try simp only [decide_eq_true_eq, decide_eq_false_iff_not, Bool.not_eq_true', Bool.not_eq_false', Bool.and_eq_true, Bool.or_eq_true, Bool.or_eq_false_iff, Bool.cond_true_right, Bool.cond_false_right, Bool.cond_true_left, Bool.cond_false_left, ne_eq, Decidable.not_not, bne_iff_ne, beq_iff_eq, beq_eq_false_iff_ne, Bool.not_true, Bool.not_false] at hc0
    have hl : at_.length = rows.length := by omega
    refine wp_skip ?_
    refine n_then ?_
    refine wp_seq ?_
    refine wp_seq ?_
    refine rg ?_
    refine st (mvS rfl) ?_
    refine st (y_len Try.underlying22 rfl) ?_
    refine st (mvI rfl) ?_
    refine rg_end ?_
    refine n_then ?_
    refine wp_block ?_
    refine lp (γ := Nat) [4, 5, 6, 14, 15, 16, 17, 18, 19, 20, 21, 22, 23, 24, 25, 26, 27, 28, 29, 30] (fun k => [(14, .int .i64 (k : Int))]) (fun k w_ => Ext w w_ ∧ (k : Int) ≤ at_.length ∧ ∀ q : Nat, q < k → -1 ≤ el at_ (q : Int) ∧ el at_ (q : Int) ≤ (el rows (q : Int)).st.length) (fun k => at_.length - k) 0 ⟨rfl, trivial⟩ ⟨Out.refl _ _ _, by omega, fun q hq => by omega⟩ ?_
    rintro k hav_ w1 ⟨ho2, hk_, hall⟩
    have hlp0 := ho2
    have hz3 := ho2.size
    replace hP := hP.ext ho2
    replace hA := hA.ext ho2
    replace hE := hE.step ho2 (.inl (Nat.le_refl _))
    refine wp_seq ?_
    refine rg ?_
    refine st (y_lss rfl rfl) ?_
    refine rg_end ?_
    refine n_then ?_
    refine wp_seq ?_
    refine cnd rfl (fun hc1 => ?_) (fun hc1 => ?_)
    ·
      try simp only [decide_eq_true_eq, decide_eq_false_iff_not, Bool.not_eq_true', Bool.not_eq_false', Bool.and_eq_true, Bool.or_eq_true, Bool.or_eq_false_iff, Bool.cond_true_right, Bool.cond_false_right, Bool.cond_true_left, Bool.cond_false_left, ne_eq, Decidable.not_not, bne_iff_ne, beq_iff_eq, beq_eq_false_iff_ne, Bool.not_true, Bool.not_false] at hc1
      refine wp_skip ?_
      refine n_then ?_
      refine wp_seq ?_
      refine wp_block ?_
      refine wp_seq ?_
      refine rg ?_
      refine st (mvI rfl) ?_
      refine st (y_ix hA sl22 rfl (rfl) rfl (by omega) (by omega)) ?_
      refine st (y_le hA na3 rfl (by omega) (by omega) rfl) ?_
      refine st (asI rfl) ?_
      refine st (asI rfl) ?_
      refine rg_end ?_
      refine n_then ?_
      refine wp_seq ?_
      refine rg ?_
      refine st (mvI rfl) ?_
      refine st (y_lss rfl rfl) ?_
      refine st (mvB rfl) ?_
      refine gspL 21 rfl (fun hg4 => ?_) (fun hg4 => ?_)
      ·
        have hg4n := hg4; try simp only [decide_eq_true_eq, decide_eq_false_iff_not, Bool.not_eq_true', Bool.not_eq_false', Bool.and_eq_true, Bool.or_eq_true, Bool.or_eq_false_iff, Bool.cond_true_right, Bool.cond_false_right, Bool.cond_true_left, Bool.cond_false_left, ne_eq, Decidable.not_not, bne_iff_ne, beq_iff_eq, beq_eq_false_iff_ne, Bool.not_true, Bool.not_false] at hg4n
        refine sts rfl rfl hg4 ?_
        refine sts rfl rfl hg4 ?_
        refine sts rfl rfl hg4 ?_
        refine sts rfl rfl hg4 ?_
        refine sts rfl rfl hg4 ?_
        refine sts rfl rfl hg4 ?_
        refine sts rfl rfl hg4 ?_
        refine st (y_pickT rfl hg4 (v := .bool _) rfl) ?_
        refine rg_end ?_
        refine n_then ?_
        refine cnd rfl (fun hc2 => ?_) (fun hc2 => absurd hc2 (by decide))
        have hno : ¬ GoP rows at_ := fun h => by
          have := h.rng k (by omega)
          omega
        refine wp_seq ?_
        refine rg ?_
        refine st (asB rfl) ?_
        refine rg_end ?_
        refine n_then ?_
        refine wp_ret ?_
        refine r_blk (r_then (r_then (r_blk (r_then (ret1 (v := (.bool _)) Try.results36 rfl ?_)))))
        exact ⟨false, rfl, ⟨fun h => (by cases h), fun h => absurd h hno⟩, hE⟩
      ·
        have hg4n := hg4; try simp only [decide_eq_true_eq, decide_eq_false_iff_not, Bool.not_eq_true', Bool.not_eq_false', Bool.and_eq_true, Bool.or_eq_true, Bool.or_eq_false_iff, Bool.cond_true_right, Bool.cond_false_right, Bool.cond_true_left, Bool.cond_false_left, ne_eq, Decidable.not_not, bne_iff_ne, beq_iff_eq, beq_eq_false_iff_ne, Bool.not_true, Bool.not_false] at hg4n
        refine stg rfl rfl hg4 (mvI rfl) ?_
        refine stg rfl rfl hg4 (mvS rfl) ?_
        refine stg rfl rfl hg4 (mvI rfl) ?_
        refine stg rfl rfl hg4 (y_ix hP.tb sl23 rfl (rfl) rfl (by omega) (by omega)) ?_
        refine stg rfl rfl hg4 (y_le hP.tb na35 rfl (by omega) (by omega) rfl) ?_
        refine stg rfl rfl hg4 (y_len Try.underlying35 rfl) ?_
        refine stg rfl rfl hg4 (y_gtr rfl rfl) ?_
        refine st (y_pickF rfl hg4 (v := .bool _) rfl) ?_
        refine rg_end ?_
        refine n_then ?_
        refine cnd rfl (fun hc2 => ?_) (fun hc2 => ?_)
        ·
          try simp only [decide_eq_true_eq, decide_eq_false_iff_not, Bool.not_eq_true', Bool.not_eq_false', Bool.and_eq_true, Bool.or_eq_true, Bool.or_eq_false_iff, Bool.cond_true_right, Bool.cond_false_right, Bool.cond_true_left, Bool.cond_false_left, ne_eq, Decidable.not_not, bne_iff_ne, beq_iff_eq, beq_eq_false_iff_ne, Bool.not_true, Bool.not_false] at hc2
          have hno : ¬ GoP rows at_ := fun h => by
            have := h.rng k (by omega)
            omega
          refine wp_seq ?_
          refine rg ?_
          refine st (asB rfl) ?_
          refine rg_end ?_
          refine n_then ?_
          refine wp_ret ?_
          refine r_blk (r_then (r_then (r_blk (r_then (ret1 (v := (.bool _)) Try.results36 rfl ?_)))))
          exact ⟨false, rfl, ⟨fun h => (by cases h), fun h => absurd h hno⟩, hE⟩
        ·
          try simp only [decide_eq_true_eq, decide_eq_false_iff_not, Bool.not_eq_true', Bool.not_eq_false', Bool.and_eq_true, Bool.or_eq_true, Bool.or_eq_false_iff, Bool.cond_true_right, Bool.cond_false_right, Bool.cond_true_left, Bool.cond_false_left, ne_eq, Decidable.not_not, bne_iff_ne, beq_iff_eq, beq_eq_false_iff_ne, Bool.not_true, Bool.not_false] at hc2
          have hall1 : ∀ q : Nat, q < k + 1 → -1 ≤ el at_ (q : Int) ∧ el at_ (q : Int) ≤ (el rows (q : Int)).st.length := fun q hq => by
            by_cases e : q = k
            · subst e; omega
            · exact hall q (by omega)
          refine wp_skip ?_
          refine n_blk ?_
          refine n_then ?_
          refine rg ?_
          refine st (y_add rfl rfl (by omega)) ?_
          refine st (mvI rfl) ?_
          refine rg_end ?_
          exact n_then ⟨k + 1, _, rfl, same_lk rfl (same_h0), ⟨rfl, trivial⟩, ⟨hlp0, by omega, hall1⟩, by first | omega | (dsimp only; omega)⟩
    ·
      try simp only [decide_eq_true_eq, decide_eq_false_iff_not, Bool.not_eq_true', Bool.not_eq_false', Bool.and_eq_true, Bool.or_eq_true, Bool.or_eq_false_iff, Bool.cond_true_right, Bool.cond_false_right, Bool.cond_true_left, Bool.cond_false_left, ne_eq, Decidable.not_not, bne_iff_ne, beq_iff_eq, beq_eq_false_iff_ne, Bool.not_true, Bool.not_false] at hc1
      refine wp_exit ?_
      refine e_then (e_then (e_blk (?_)))
      refine n_then ?_
      refine wp_seq ?_
      refine rg ?_
      refine st (asB rfl) ?_
      refine rg_end ?_
      refine n_then ?_
      refine wp_ret ?_
      refine ret1 (v := (.bool _)) Try.results36 rfl ?_
      exact ⟨true, rfl, ⟨fun _ => ⟨hl, fun q hq => hall q (by omega)⟩, fun _ => rfl⟩, hE⟩

set_option maxRecDepth 100000 in
theorem ref35_Section_ok (rows : List Pw) (ap : Option Addr) (cp l_ h_ : Nat) (at_ : List Int) (aa : Option Addr) (ca la ha_ : Nat) (t : Nat) (w : World) (hP : PIn l_ h_ w ap rows) (hpn : (rows.length : Int) ≤ 9223372036854775807) (hA : Ints la ha_ w aa at_) (hg : GoP rows at_) (ht : t < rows.length)  : Cal Try.prog 26 [.slice ap rows.length cp, .slice aa at_.length ca, .int .i64 (t : Int)] w (fun v w' => v = .int .i64 (secT rows at_ (t : Int)) ∧ Ext w w') := by
  replace hP := hP.full
  replace hA := Ints.full hA
  have hmr := el_mem (l := rows) (i := (t : Int)) (by omega) (by omega)
  have hR := hP.row _ hmr
  have hl := hg.len
  have hr := hg.rng t ht
  have hE : Out 0 0 w w := Out.refl _ _ w
  refine enter Try.func26 rfl Try.ntmps26 rfl ?_
  refine wp_seq ?_
  refine rg ?_
  refine st (asI rfl) ?_
  refine rg_end ?_
  refine n_then ?_
  refine wp_seq ?_
  refine wp_seq ?_
  refine rgD 15 (fun w_ => Ext w w_) (fun i => false) mixed (by kernel_rfl) ?_
  intro w1 ho2 hs3
  refine ⟨ho2, ?_⟩
  have hx4 := ho2
  refine tn rfl (fun _ hG => mvS rfl) ?_
  refine tn rfl (fun _ hG => mvI rfl) ?_
  refine tn rfl (fun _ hG => y_ix (hA.ext hG) sl22 rfl (rfl) rfl (by omega) (by omega)) ?_
  refine tn rfl (fun _ hG => y_le (hA.ext hG) na3 rfl (by omega) (by omega) rfl) ?_
  refine tn rfl (fun _ hG => y_lss rfl rfl) ?_
  refine tn rfl (fun _ hG => mvB rfl) ?_
  refine gspT 12 rfl (fun hg5 => ?_) (fun hg5 => ?_)
  ·
    have hg5n := hg5; try simp only [decide_eq_true_eq, decide_eq_false_iff_not, Bool.not_eq_true', Bool.not_eq_false', Bool.and_eq_true, Bool.or_eq_true, Bool.or_eq_false_iff, Bool.cond_true_right, Bool.cond_false_right, Bool.cond_true_left, Bool.cond_false_left, ne_eq, Decidable.not_not, bne_iff_ne, beq_iff_eq, beq_eq_false_iff_ne, Bool.not_true, Bool.not_false] at hg5n
    refine tns rfl rfl hg5 ?_
    refine tns rfl rfl hg5 ?_
    refine tns rfl rfl hg5 ?_
    refine tns rfl rfl hg5 ?_
    refine tns rfl rfl hg5 ?_
    refine tns rfl rfl hg5 ?_
    refine tns rfl rfl hg5 ?_
    refine tns rfl rfl hg5 ?_
    refine tns rfl rfl hg5 ?_
    refine t_end ?_
    have hz6 := hx4.size
    replace hP := hP.ext hx4
    replace hA := hA.ext hx4
    replace hR := hR.ext hx4
    replace hE := hE.step hx4 (.inl (Nat.le_refl _))
    refine sts rfl rfl hg5 ?_
    refine st (y_pickT rfl hg5 (v := .bool _) rfl) ?_
    refine rg_end ?_
    refine n_then ?_
    refine cnd rfl (fun hc0 => ?_) (fun hc0 => absurd hc0 (by decide))
    have hs : secT rows at_ (t : Int) = -1 := by unfold secT; rw [if_pos (by omega)]
    refine wp_seq ?_
    refine rg ?_
    refine st (asI rfl) ?_
    refine rg_end ?_
    refine n_then ?_
    refine wp_ret ?_
    refine r_then (ret1 (v := (.int .i64 _)) Try.results26 rfl ?_)
    exact ⟨by rw [hs], hE⟩
  ·
    have hg5n := hg5; try simp only [decide_eq_true_eq, decide_eq_false_iff_not, Bool.not_eq_true', Bool.not_eq_false', Bool.and_eq_true, Bool.or_eq_true, Bool.or_eq_false_iff, Bool.cond_true_right, Bool.cond_false_right, Bool.cond_true_left, Bool.cond_false_left, ne_eq, Decidable.not_not, bne_iff_ne, beq_iff_eq, beq_eq_false_iff_ne, Bool.not_true, Bool.not_false] at hg5n
    refine tng rfl rfl rfl hg5 (fun _ hG => mvS rfl) ?_
    refine tng rfl rfl rfl hg5 (fun _ hG => mvI rfl) ?_
    refine tng rfl rfl rfl hg5 (fun _ hG => y_ix (hA.ext hG) sl22 rfl (rfl) rfl (by omega) (by omega)) ?_
    refine tng rfl rfl rfl hg5 (fun _ hG => y_le (hA.ext hG) na3 rfl (by omega) (by omega) rfl) ?_
    refine tng rfl rfl rfl hg5 (fun _ hG => mvS rfl) ?_
    refine tng rfl rfl rfl hg5 (fun _ hG => mvI rfl) ?_
    refine tng rfl rfl rfl hg5 (fun _ hG => y_ix (hP.tb.ext hG) sl23 rfl (rfl) rfl (by omega) (by omega)) ?_
    refine tng rfl rfl rfl hg5 (fun _ hG => y_le (hP.tb.ext hG) na35 rfl (by omega) (by omega) rfl) ?_
    refine tng rfl rfl rfl hg5 (fun _ hG => y_len Try.underlying35 rfl) ?_
    refine t_end ?_
    have hz7 := hx4.size
    replace hP := hP.ext hx4
    replace hA := hA.ext hx4
    replace hR := hR.ext hx4
    replace hE := hE.step hx4 (.inl (Nat.le_refl _))
    refine stg rfl rfl hg5 (y_geq rfl rfl) ?_
    refine st (y_pickF rfl hg5 (v := .bool _) rfl) ?_
    refine rg_end ?_
    refine n_then ?_
    refine cnd rfl (fun hc0 => ?_) (fun hc0 => ?_)
    ·
      try simp only [decide_eq_true_eq, decide_eq_false_iff_not, Bool.not_eq_true', Bool.not_eq_false', Bool.and_eq_true, Bool.or_eq_true, Bool.or_eq_false_iff, Bool.cond_true_right, Bool.cond_false_right, Bool.cond_true_left, Bool.cond_false_left, ne_eq, Decidable.not_not, bne_iff_ne, beq_iff_eq, beq_eq_false_iff_ne, Bool.not_true, Bool.not_false] at hc0
      have hs : secT rows at_ (t : Int) = -1 := by unfold secT; rw [if_pos (by omega)]
      refine wp_seq ?_
      refine rg ?_
      refine st (asI rfl) ?_
      refine rg_end ?_
      refine n_then ?_
      refine wp_ret ?_
      refine r_then (ret1 (v := (.int .i64 _)) Try.results26 rfl ?_)
      exact ⟨by rw [hs], hE⟩
    ·
      try simp only [decide_eq_true_eq, decide_eq_false_iff_not, Bool.not_eq_true', Bool.not_eq_false', Bool.and_eq_true, Bool.or_eq_true, Bool.or_eq_false_iff, Bool.cond_true_right, Bool.cond_false_right, Bool.cond_true_left, Bool.cond_false_left, ne_eq, Decidable.not_not, bne_iff_ne, beq_iff_eq, beq_eq_false_iff_ne, Bool.not_true, Bool.not_false] at hc0
      have hs : secT rows at_ (t : Int) = (el (el rows (t : Int)).st (el at_ (t : Int))).sec := by unfold secT; rw [if_neg (by omega)]
      refine wp_skip ?_
      refine n_then ?_
      refine wp_seq ?_
      refine rgD 8 (fun w_ => Ext w1 w_) (fun i => false) mixed (by kernel_rfl) ?_
      intro w8 ho9 hs10
      refine ⟨ho9, ?_⟩
      have hx11 := ho9
      refine tn rfl (fun _ hG => mvS rfl) ?_
      refine tn rfl (fun _ hG => mvI rfl) ?_
      refine tn rfl (fun _ hG => y_ix (hP.tb.ext hG) sl23 rfl (rfl) rfl (by omega) (by omega)) ?_
      refine tn rfl (fun _ hG => y_le (hP.tb.ext hG) na35 rfl (by omega) (by omega) rfl) ?_
      refine tn rfl (fun _ hG => mvS rfl) ?_
      refine tn rfl (fun _ hG => mvI rfl) ?_
      refine tn rfl (fun _ hG => y_ix (hA.ext hG) sl22 rfl (rfl) rfl (by omega) (by omega)) ?_
      refine tn rfl (fun _ hG => y_le (hA.ext hG) na3 rfl (by omega) (by omega) rfl) ?_
      refine t_end ?_
      have hz12 := hx11.size
      replace hP := hP.ext hx11
      replace hA := hA.ext hx11
      replace hR := hR.ext hx11
      replace hE := hE.step hx11 (.inl (Nat.le_refl _))
      refine st (y_ix hR sl35 rfl (rfl) rfl (by omega) (by omega)) ?_
      refine st (y_fld fld44_0 rfl) ?_
      refine st (y_lf hR na3 rfl (by omega) (by omega) rfl) ?_
      refine st (asI rfl) ?_
      refine rg_end ?_
      refine n_then ?_
      refine wp_ret ?_
      refine ret1 (v := (.int .i64 _)) Try.results26 rfl ?_
      exact ⟨by rw [hs], hE⟩

set_option maxHeartbeats 1000000 in
set_option maxRecDepth 100000 in
theorem ref35_blocker_ok (rows : List Pw) (ap : Option Addr) (cp l_ h_ : Nat) (at_ : List Int) (aa : Option Addr) (ca la ha_ : Nat) (t : Nat) (w : World) (hP : PIn l_ h_ w ap rows) (hpn : (rows.length : Int) ≤ 9223372036854775807) (hA : Ints la ha_ w aa at_) (hg : GoP rows at_) (ht : t < rows.length) (hva : VaP rows) (hlt : el at_ (t : Int) < (el rows (t : Int)).st.length) : Cal Try.prog 46 [.slice ap rows.length cp, .slice aa at_.length ca, .int .i64 (t : Int)] w (fun v w' => v = .int .i64 (blocT rows at_ (t : Int)) ∧ Ext w w') := by
  replace hP := hP.full
  replace hA := Ints.full hA
  have hmr := el_mem (l := rows) (i := (t : Int)) (by omega) (by omega)
  have hR := hP.row _ hmr
  have hl := hg.len
  have hr := hg.rng t ht
  have hrk := va_row hva (k := t) (by omega)
  have hl2 := hrk.l2
  have hrl := hva.len
  have hE : Out 0 0 w w := Out.refl _ _ w
  refine enter Try.func46 rfl Try.ntmps46 rfl ?_
  refine wp_seq ?_
  refine rg ?_
  refine st (asI rfl) ?_
  refine rg_end ?_
  refine n_then ?_
  refine wp_seq ?_
  refine wp_seq ?_
  refine rgD 10 (fun w_ => Ext w w_) (fun i => false) mixed (by kernel_rfl) ?_
  intro w1 ho2 hs3
  refine ⟨ho2, ?_⟩
  have hx4 := ho2
  refine tn rfl (fun _ hG => mvS rfl) ?_
  refine tn rfl (fun _ hG => mvI rfl) ?_
  refine tn rfl (fun _ hG => y_ix (hA.ext hG) sl22 rfl (rfl) rfl (by omega) (by omega)) ?_
  refine tn rfl (fun _ hG => y_le (hA.ext hG) na3 rfl (by omega) (by omega) rfl) ?_
  refine tn rfl (fun _ hG => y_add rfl rfl (by omega)) ?_
  refine tn rfl (fun _ hG => mvS rfl) ?_
  refine tn rfl (fun _ hG => mvI rfl) ?_
  refine tn rfl (fun _ hG => y_ix (hP.tb.ext hG) sl23 rfl (rfl) rfl (by omega) (by omega)) ?_
  refine tn rfl (fun _ hG => y_le (hP.tb.ext hG) na35 rfl (by omega) (by omega) rfl) ?_
  refine tn rfl (fun _ hG => y_len Try.underlying35 rfl) ?_
  refine t_end ?_
  have hz5 := hx4.size
  replace hP := hP.ext hx4
  replace hA := hA.ext hx4
  replace hR := hR.ext hx4
  replace hE := hE.step hx4 (.inl (Nat.le_refl _))
  refine st (y_geq rfl rfl) ?_
  refine rg_end ?_
  refine n_then ?_
  refine cnd rfl (fun hc0 => ?_) (fun hc0 => ?_)
  ·
    try simp only [decide_eq_true_eq, decide_eq_false_iff_not, Bool.not_eq_true', Bool.not_eq_false', Bool.and_eq_true, Bool.or_eq_true, Bool.or_eq_false_iff, Bool.cond_true_right, Bool.cond_false_right, Bool.cond_true_left, Bool.cond_false_left, ne_eq, Decidable.not_not, bne_iff_ne, beq_iff_eq, beq_eq_false_iff_ne, Bool.not_true, Bool.not_false] at hc0
    have hs : blocT rows at_ (t : Int) = -1 := by unfold blocT; rw [if_pos (by omega)]
    refine wp_seq ?_
    refine rg ?_
    refine st (asI rfl) ?_
    refine rg_end ?_
    refine n_then ?_
    refine wp_ret ?_
    refine r_then (ret1 (v := (.int .i64 _)) Try.results46 rfl ?_)
    exact ⟨by rw [hs], hE⟩
  ·
    try simp only [decide_eq_true_eq, decide_eq_false_iff_not, Bool.not_eq_true', Bool.not_eq_false', Bool.and_eq_true, Bool.or_eq_true, Bool.or_eq_false_iff, Bool.cond_true_right, Bool.cond_false_right, Bool.cond_true_left, Bool.cond_false_left, ne_eq, Decidable.not_not, bne_iff_ne, beq_iff_eq, beq_eq_false_iff_ne, Bool.not_true, Bool.not_false] at hc0
    have hs : blocT rows at_ (t : Int) = blkT rows at_ (t : Int) rows.length := by unfold blocT; rw [if_neg (by omega)]
    refine wp_skip ?_
    refine n_then ?_
    refine wp_seq ?_
    refine rgD 9 (fun w_ => Ext w1 w_) (fun i => false) mixed (by kernel_rfl) ?_
    intro w6 ho7 hs8
    refine ⟨ho7, ?_⟩
    have hx9 := ho7
    refine tn rfl (fun _ hG => mvS rfl) ?_
    refine tn rfl (fun _ hG => mvI rfl) ?_
    refine tn rfl (fun _ hG => y_ix (hP.tb.ext hG) sl23 rfl (rfl) rfl (by omega) (by omega)) ?_
    refine tn rfl (fun _ hG => y_le (hP.tb.ext hG) na35 rfl (by omega) (by omega) rfl) ?_
    refine tn rfl (fun _ hG => mvS rfl) ?_
    refine tn rfl (fun _ hG => mvI rfl) ?_
    refine tn rfl (fun _ hG => y_ix (hA.ext hG) sl22 rfl (rfl) rfl (by omega) (by omega)) ?_
    refine tn rfl (fun _ hG => y_le (hA.ext hG) na3 rfl (by omega) (by omega) rfl) ?_
    refine tn rfl (fun _ hG => y_add rfl rfl (by omega)) ?_
    refine t_end ?_
    have hz10 := hx9.size
    replace hP := hP.ext hx9
    replace hA := hA.ext hx9
    replace hR := hR.ext hx9
    replace hE := hE.step hx9 (.inl (Nat.le_refl _))
    refine st (y_ix hR sl35 rfl (rfl) rfl (by omega) (by omega)) ?_
    refine st (y_fld fld44_0 rfl) ?_
    refine st (y_lf hR na3 rfl (by omega) (by omega) rfl) ?_
    refine st (asI rfl) ?_
    refine rg_end ?_
    refine n_then ?_
    refine wp_seq ?_
    refine wp_seq ?_
    refine rg ?_
    refine st (mvS rfl) ?_
    refine st (y_len Try.underlying23 rfl) ?_
    refine st (mvI rfl) ?_
    refine rg_end ?_
    refine n_then ?_
    refine wp_block ?_
    refine lp (γ := Nat) [6, 8, 34, 35, 36, 37, 38, 39, 40, 41, 42, 43, 44, 45, 46, 47, 48, 49] (fun k => [(34, .int .i64 (k : Int))]) (fun k w_ => Ext w6 w_ ∧ (k : Int) ≤ rows.length ∧ blkT rows at_ (t : Int) k = -1) (fun k => rows.length - k) 0 ⟨rfl, trivial⟩ ⟨Out.refl _ _ _, by omega, rfl⟩ ?_
    rintro k hav_ w11 ⟨ho12, hk_, hbk⟩
    have hlp0 := ho12
    have hz13 := ho12.size
    replace hP := hP.ext ho12
    replace hA := hA.ext ho12
    replace hR := hR.ext ho12
    replace hE := hE.step ho12 (.inl (Nat.le_refl _))
    refine wp_seq ?_
    refine rg ?_
    refine st (y_lss rfl rfl) ?_
    refine rg_end ?_
    refine n_then ?_
    refine wp_seq ?_
    refine cnd rfl (fun hc1 => ?_) (fun hc1 => ?_)
    ·
      try simp only [decide_eq_true_eq, decide_eq_false_iff_not, Bool.not_eq_true', Bool.not_eq_false', Bool.and_eq_true, Bool.or_eq_true, Bool.or_eq_false_iff, Bool.cond_true_right, Bool.cond_false_right, Bool.cond_true_left, Bool.cond_false_left, ne_eq, Decidable.not_not, bne_iff_ne, beq_iff_eq, beq_eq_false_iff_ne, Bool.not_true, Bool.not_false] at hc1
      refine wp_skip ?_
      refine n_then ?_
      refine wp_seq ?_
      refine wp_block ?_
      refine wp_seq ?_
      refine rg ?_
      refine st (mvI rfl) ?_
      refine st (asI rfl) ?_
      refine rg_end ?_
      refine n_then ?_
      refine wp_seq ?_
      refine rg ?_
      refine st (mvI rfl) ?_
      refine st (mvI rfl) ?_
      refine st (y_neq rfl rfl) ?_
      refine st (mvB rfl) ?_
      refine gspL 40 rfl (fun hg14 => ?_) (fun hg14 => ?_)
      ·
        have hg14n := hg14; try simp only [decide_eq_true_eq, decide_eq_false_iff_not, Bool.not_eq_true', Bool.not_eq_false', Bool.and_eq_true, Bool.or_eq_true, Bool.or_eq_false_iff, Bool.cond_true_right, Bool.cond_false_right, Bool.cond_true_left, Bool.cond_false_left, ne_eq, Decidable.not_not, bne_iff_ne, beq_iff_eq, beq_eq_false_iff_ne, Bool.not_true, Bool.not_false] at hg14n
        refine stg rfl rfl hg14 (mvS rfl) ?_
        refine stg rfl rfl hg14 (mvS rfl) ?_
        refine stg rfl rfl hg14 (mvI rfl) ?_
        refine scg rfl rfl hg14 cl26 (ref35_Section_ok rows _ _ _ _ at_ _ _ _ _ k _ hP hpn hA hg (by omega)) rfl ?_
        rintro v19 w15 ⟨rfl, ho16⟩
        have hz20 := ho16.size
        replace hP := hP.ext ho16
        replace hA := hA.ext ho16
        replace hR := hR.ext ho16
        replace hE := hE.step ho16 (.inl (Nat.le_refl _))
        replace hlp0 := hlp0.step ho16 (.inl (Nat.le_refl _))
        refine stg rfl rfl hg14 (mvI rfl) ?_
        refine stg rfl rfl hg14 (y_eql rfl rfl) ?_
        refine st (y_pickT rfl hg14 (v := .bool _) rfl) ?_
        refine rg_end ?_
        refine n_then ?_
        refine cnd rfl (fun hc2 => ?_) (fun hc2 => ?_)
        ·
          try simp only [decide_eq_true_eq, decide_eq_false_iff_not, Bool.not_eq_true', Bool.not_eq_false', Bool.and_eq_true, Bool.or_eq_true, Bool.or_eq_false_iff, Bool.cond_true_right, Bool.cond_false_right, Bool.cond_true_left, Bool.cond_false_left, ne_eq, Decidable.not_not, bne_iff_ne, beq_iff_eq, beq_eq_false_iff_ne, Bool.not_true, Bool.not_false] at hc2
          have hb1 : blkT rows at_ (t : Int) (k + 1) = (k : Int) := by
            rw [blkT, if_pos ⟨hbk, by first | assumption | omega, hc2⟩]
          have hb2 := blkT_keep (rows := rows) (at_ := at_) (t := (t : Int)) (k := k + 1) (by omega) rows.length (by omega)
          refine wp_seq ?_
          refine rg ?_
          refine st (mvI rfl) ?_
          refine st (asI rfl) ?_
          refine rg_end ?_
          refine n_then ?_
          refine wp_ret ?_
          refine r_blk (r_then (r_then (r_blk (r_then (ret1 (v := (.int .i64 _)) Try.results46 rfl ?_)))))
          exact ⟨by rw [hs, hb2, hb1], hE⟩
        ·
          try simp only [decide_eq_true_eq, decide_eq_false_iff_not, Bool.not_eq_true', Bool.not_eq_false', Bool.and_eq_true, Bool.or_eq_true, Bool.or_eq_false_iff, Bool.cond_true_right, Bool.cond_false_right, Bool.cond_true_left, Bool.cond_false_left, ne_eq, Decidable.not_not, bne_iff_ne, beq_iff_eq, beq_eq_false_iff_ne, Bool.not_true, Bool.not_false] at hc2
          have hb1 : blkT rows at_ (t : Int) (k + 1) = -1 := by
            rw [blkT, if_neg (fun q => by first | exact absurd q.2.2 (by assumption) | exact absurd (by assumption) q.2.1 | (have := q.2.1; omega))]; exact hbk
          refine wp_skip ?_
          refine n_blk ?_
          refine n_then ?_
          refine rg ?_
          refine st (y_add rfl rfl (by omega)) ?_
          refine st (mvI rfl) ?_
          refine rg_end ?_
          exact n_then ⟨k + 1, _, rfl, same_lk rfl (same_h0), ⟨rfl, trivial⟩, ⟨hlp0, by omega, hb1⟩, by first | omega | (dsimp only; omega)⟩
      ·
        have hg14n := hg14; try simp only [decide_eq_true_eq, decide_eq_false_iff_not, Bool.not_eq_true', Bool.not_eq_false', Bool.and_eq_true, Bool.or_eq_true, Bool.or_eq_false_iff, Bool.cond_true_right, Bool.cond_false_right, Bool.cond_true_left, Bool.cond_false_left, ne_eq, Decidable.not_not, bne_iff_ne, beq_iff_eq, beq_eq_false_iff_ne, Bool.not_true, Bool.not_false] at hg14n
        refine sts rfl rfl hg14 ?_
        refine sts rfl rfl hg14 ?_
        refine sts rfl rfl hg14 ?_
        refine sts rfl rfl hg14 ?_
        refine sts rfl rfl hg14 ?_
        refine sts rfl rfl hg14 ?_
        refine st (y_pickF rfl hg14 (v := .bool _) rfl) ?_
        refine rg_end ?_
        refine n_then ?_
        refine cnd rfl (fun hc2 => absurd hc2 (by decide)) (fun hc2 => ?_)
        have hb1 : blkT rows at_ (t : Int) (k + 1) = -1 := by
          rw [blkT, if_neg (fun q => by first | exact absurd q.2.2 (by assumption) | exact absurd (by assumption) q.2.1 | (have := q.2.1; omega))]; exact hbk
        refine wp_skip ?_
        refine n_blk ?_
        refine n_then ?_
        refine rg ?_
        refine st (y_add rfl rfl (by omega)) ?_
        refine st (mvI rfl) ?_
        refine rg_end ?_
        exact n_then ⟨k + 1, _, rfl, same_lk rfl (same_h0), ⟨rfl, trivial⟩, ⟨hlp0, by omega, hb1⟩, by first | omega | (dsimp only; omega)⟩
    ·
      try simp only [decide_eq_true_eq, decide_eq_false_iff_not, Bool.not_eq_true', Bool.not_eq_false', Bool.and_eq_true, Bool.or_eq_true, Bool.or_eq_false_iff, Bool.cond_true_right, Bool.cond_false_right, Bool.cond_true_left, Bool.cond_false_left, ne_eq, Decidable.not_not, bne_iff_ne, beq_iff_eq, beq_eq_false_iff_ne, Bool.not_true, Bool.not_false] at hc1
      have hke : k = rows.length := by omega
      subst hke
      refine wp_exit ?_
      refine e_then (e_then (e_blk (?_)))
      refine n_then ?_
      refine wp_seq ?_
      refine rg ?_
      refine st (asI rfl) ?_
      refine rg_end ?_
      refine n_then ?_
      refine wp_ret ?_
      refine ret1 (v := (.int .i64 _)) Try.results46 rfl ?_
      exact ⟨by rw [hs, hbk], hE⟩

set_option maxRecDepth 100000 in
theorem ref35_movable_ok (rows : List Pw) (ap : Option Addr) (cp l_ h_ : Nat) (at_ : List Int) (aa : Option Addr) (ca la ha_ : Nat) (t : Nat) (w : World) (hP : PIn l_ h_ w ap rows) (hpn : (rows.length : Int) ≤ 9223372036854775807) (hA : Ints la ha_ w aa at_) (hg : GoP rows at_) (ht : t < rows.length) (hva : VaP rows) : Cal Try.prog 39 [.slice ap rows.length cp, .slice aa at_.length ca, .int .i64 (t : Int)] w (fun v w' => v = .bool (movB rows at_ (t : Int)) ∧ Ext w w') := by
  replace hP := hP.full
  replace hA := Ints.full hA
  have hl := hg.len
  have hE : Out 0 0 w w := Out.refl _ _ w
  refine enter Try.func39 rfl Try.ntmps39 rfl ?_
  refine wp_seq ?_
  refine rg ?_
  refine st (asB rfl) ?_
  refine rg_end ?_
  refine n_then ?_
  refine wp_seq ?_
  refine rgD 14 (fun w_ => Ext w w_) (fun i => false) mixed (by kernel_rfl) ?_
  intro w1 ho2 hs3
  refine ⟨ho2, ?_⟩
  have hx4 := ho2
  refine tn rfl (fun _ hG => mvS rfl) ?_
  refine tn rfl (fun _ hG => mvI rfl) ?_
  refine tn rfl (fun _ hG => y_ix (hA.ext hG) sl22 rfl (rfl) rfl (by omega) (by omega)) ?_
  refine tn rfl (fun _ hG => y_le (hA.ext hG) na3 rfl (by omega) (by omega) rfl) ?_
  refine tn rfl (fun _ hG => mvS rfl) ?_
  refine tn rfl (fun _ hG => mvI rfl) ?_
  refine tn rfl (fun _ hG => y_ix (hP.tb.ext hG) sl23 rfl (rfl) rfl (by omega) (by omega)) ?_
  refine tn rfl (fun _ hG => y_le (hP.tb.ext hG) na35 rfl (by omega) (by omega) rfl) ?_
  refine tn rfl (fun _ hG => y_len Try.underlying35 rfl) ?_
  refine tn rfl (fun _ hG => y_lss rfl rfl) ?_
  refine tn rfl (fun _ hG => mvB rfl) ?_
  refine gspT 17 rfl (fun hg5 => ?_) (fun hg5 => ?_)
  ·
    have hg5n := hg5; try simp only [decide_eq_true_eq, decide_eq_false_iff_not, Bool.not_eq_true', Bool.not_eq_false', Bool.and_eq_true, Bool.or_eq_true, Bool.or_eq_false_iff, Bool.cond_true_right, Bool.cond_false_right, Bool.cond_true_left, Bool.cond_false_left, ne_eq, Decidable.not_not, bne_iff_ne, beq_iff_eq, beq_eq_false_iff_ne, Bool.not_true, Bool.not_false] at hg5n
    have hlt : el at_ (t : Int) < (el rows (t : Int)).st.length := by omega
    refine tng rfl rfl rfl hg5 (fun _ hG => mvS rfl) ?_
    refine tng rfl rfl rfl hg5 (fun _ hG => mvS rfl) ?_
    refine tng rfl rfl rfl hg5 (fun _ hG => mvI rfl) ?_
    refine t_end ?_
    have hz6 := hx4.size
    replace hP := hP.ext hx4
    replace hA := hA.ext hx4
    replace hE := hE.step hx4 (.inl (Nat.le_refl _))
    refine scg rfl rfl hg5 cl46 (ref35_blocker_ok rows _ _ _ _ at_ _ _ _ _ t _ hP hpn hA hg ht hva hlt) rfl ?_
    rintro v11 w7 ⟨rfl, ho8⟩
    have hz12 := ho8.size
    replace hP := hP.ext ho8
    replace hA := hA.ext ho8
    replace hE := hE.step ho8 (.inl (Nat.le_refl _))
    refine stg rfl rfl hg5 (y_lss rfl rfl) ?_
    refine st (y_pickT rfl hg5 (v := .bool _) rfl) ?_
    refine st (asB rfl) ?_
    refine rg_end ?_
    refine n_then ?_
    refine wp_ret ?_
    refine ret1 (v := (.bool _)) Try.results39 rfl ?_
    first
    | exact ⟨congrArg Value.bool (by unfold movB; rw [decide_eq_true hlt]; simp), hE⟩
    | exact ⟨congrArg Value.bool (by unfold movB; rw [decide_eq_false hge]; simp), hE⟩
  ·
    have hg5n := hg5; try simp only [decide_eq_true_eq, decide_eq_false_iff_not, Bool.not_eq_true', Bool.not_eq_false', Bool.and_eq_true, Bool.or_eq_true, Bool.or_eq_false_iff, Bool.cond_true_right, Bool.cond_false_right, Bool.cond_true_left, Bool.cond_false_left, ne_eq, Decidable.not_not, bne_iff_ne, beq_iff_eq, beq_eq_false_iff_ne, Bool.not_true, Bool.not_false] at hg5n
    have hge : ¬ el at_ (t : Int) < (el rows (t : Int)).st.length := by omega
    refine tns rfl rfl hg5 ?_
    refine tns rfl rfl hg5 ?_
    refine tns rfl rfl hg5 ?_
    refine t_end ?_
    have hz13 := hx4.size
    replace hP := hP.ext hx4
    replace hA := hA.ext hx4
    replace hE := hE.step hx4 (.inl (Nat.le_refl _))
    refine sts rfl rfl hg5 ?_
    refine sts rfl rfl hg5 ?_
    refine st (y_pickF rfl hg5 (v := .bool _) rfl) ?_
    refine st (asB rfl) ?_
    refine rg_end ?_
    refine n_then ?_
    refine wp_ret ?_
    refine ret1 (v := (.bool _)) Try.results39 rfl ?_
    first
    | exact ⟨congrArg Value.bool (by unfold movB; rw [decide_eq_true hlt]; simp), hE⟩
    | exact ⟨congrArg Value.bool (by unfold movB; rw [decide_eq_false hge]; simp), hE⟩

set_option maxRecDepth 100000 in
theorem ref35_Left_ok (rows : List Pw) (ap : Option Addr) (cp l_ h_ : Nat) (at_ : List Int) (aa : Option Addr) (ca la ha_ : Nat) (w : World) (hP : PIn l_ h_ w ap rows) (hpn : (rows.length : Int) ≤ 9223372036854775807) (hA : Ints la ha_ w aa at_) (hl : at_.length = rows.length) : Cal Try.prog 21 [.slice ap rows.length cp, .slice aa at_.length ca] w (fun v w' => v = .bool (leftB rows at_) ∧ Ext w w') := by
  replace hP := hP.full
  replace hA := Ints.full hA
  have hE : Out 0 0 w w := Out.refl _ _ w
  refine enter Try.func21 rfl Try.ntmps21 rfl ?_
  refine wp_seq ?_
  refine rg ?_
  refine st (asB rfl) ?_
  refine rg_end ?_
  refine n_then ?_
  refine wp_seq ?_
  refine wp_seq ?_
  refine rg ?_
  refine st (mvS rfl) ?_
  refine st (y_len Try.underlying23 rfl) ?_
  refine st (mvI rfl) ?_
  refine rg_end ?_
  refine n_then ?_
  refine wp_block ?_
  refine lp (γ := Nat) [4, 5, 8, 9, 10, 11, 12, 13, 14, 15, 16, 17, 18, 19, 20, 21] (fun k => [(8, .int .i64 (k : Int))]) (fun k w_ => Ext w w_ ∧ (k : Int) ≤ rows.length ∧ ∀ q : Nat, q < k → (el rows (q : Int)).st.length ≤ el at_ (q : Int)) (fun k => rows.length - k) 0 ⟨rfl, trivial⟩ ⟨Out.refl _ _ _, by omega, fun q hq => by omega⟩ ?_
  rintro k hav_ w1 ⟨ho2, hk_, hall⟩
  have hlp0 := ho2
  have hz3 := ho2.size
  replace hP := hP.ext ho2
  replace hA := hA.ext ho2
  replace hE := hE.step ho2 (.inl (Nat.le_refl _))
  refine wp_seq ?_
  refine rg ?_
  refine st (y_lss rfl rfl) ?_
  refine rg_end ?_
  refine n_then ?_
  refine wp_seq ?_
  refine cnd rfl (fun hc0 => ?_) (fun hc0 => ?_)
  ·
    try simp only [decide_eq_true_eq, decide_eq_false_iff_not, Bool.not_eq_true', Bool.not_eq_false', Bool.and_eq_true, Bool.or_eq_true, Bool.or_eq_false_iff, Bool.cond_true_right, Bool.cond_false_right, Bool.cond_true_left, Bool.cond_false_left, ne_eq, Decidable.not_not, bne_iff_ne, beq_iff_eq, beq_eq_false_iff_ne, Bool.not_true, Bool.not_false] at hc0
    refine wp_skip ?_
    refine n_then ?_
    refine wp_seq ?_
    refine wp_block ?_
    refine wp_seq ?_
    refine rg ?_
    refine st (mvI rfl) ?_
    refine st (asI rfl) ?_
    refine rg_end ?_
    refine n_then ?_
    refine wp_seq ?_
    refine rgD 9 (fun w_ => Ext w1 w_) (fun i => false) mixed (by kernel_rfl) ?_
    intro w4 ho5 hs6
    refine ⟨ho5, ?_⟩
    have hx7 := ho5
    refine tn rfl (fun _ hG => mvS rfl) ?_
    refine tn rfl (fun _ hG => mvI rfl) ?_
    refine tn rfl (fun _ hG => y_ix (hA.ext hG) sl22 rfl (rfl) rfl (by omega) (by omega)) ?_
    refine tn rfl (fun _ hG => y_le (hA.ext hG) na3 rfl (by omega) (by omega) rfl) ?_
    refine tn rfl (fun _ hG => mvS rfl) ?_
    refine tn rfl (fun _ hG => mvI rfl) ?_
    refine tn rfl (fun _ hG => y_ix (hP.tb.ext hG) sl23 rfl (rfl) rfl (by omega) (by omega)) ?_
    refine tn rfl (fun _ hG => y_le (hP.tb.ext hG) na35 rfl (by omega) (by omega) rfl) ?_
    refine tn rfl (fun _ hG => y_len Try.underlying35 rfl) ?_
    refine t_end ?_
    have hz8 := hx7.size
    replace hP := hP.ext hx7
    replace hA := hA.ext hx7
    replace hE := hE.step hx7 (.inl (Nat.le_refl _))
    replace hlp0 := hlp0.step hx7 (.inl (Nat.le_refl _))
    refine st (y_lss rfl rfl) ?_
    refine rg_end ?_
    refine n_then ?_
    refine cnd rfl (fun hc1 => ?_) (fun hc1 => ?_)
    ·
      try simp only [decide_eq_true_eq, decide_eq_false_iff_not, Bool.not_eq_true', Bool.not_eq_false', Bool.and_eq_true, Bool.or_eq_true, Bool.or_eq_false_iff, Bool.cond_true_right, Bool.cond_false_right, Bool.cond_true_left, Bool.cond_false_left, ne_eq, Decidable.not_not, bne_iff_ne, beq_iff_eq, beq_eq_false_iff_ne, Bool.not_true, Bool.not_false] at hc1
      have hlf : leftB rows at_ = false := by
        cases e : leftB rows at_ with
        | false => rfl
        | true =>
          unfold leftB at e
          have := List.all_eq_true.1 e k (List.mem_range.2 (by omega))
          rw [decide_eq_true_eq] at this
          omega
      refine wp_seq ?_
      refine rg ?_
      refine st (asB rfl) ?_
      refine rg_end ?_
      refine n_then ?_
      refine wp_ret ?_
      refine r_blk (r_then (r_then (r_blk (r_then (ret1 (v := (.bool _)) Try.results21 rfl ?_)))))
      exact ⟨by rw [hlf], hE⟩
    ·
      try simp only [decide_eq_true_eq, decide_eq_false_iff_not, Bool.not_eq_true', Bool.not_eq_false', Bool.and_eq_true, Bool.or_eq_true, Bool.or_eq_false_iff, Bool.cond_true_right, Bool.cond_false_right, Bool.cond_true_left, Bool.cond_false_left, ne_eq, Decidable.not_not, bne_iff_ne, beq_iff_eq, beq_eq_false_iff_ne, Bool.not_true, Bool.not_false] at hc1
      have hall1 : ∀ q : Nat, q < k + 1 → (el rows (q : Int)).st.length ≤ el at_ (q : Int) := fun q hq => by
        by_cases e : q = k
        · subst e; omega
        · exact hall q (by omega)
      refine wp_skip ?_
      refine n_blk ?_
      refine n_then ?_
      refine rg ?_
      refine st (y_add rfl rfl (by omega)) ?_
      refine st (mvI rfl) ?_
      refine rg_end ?_
      exact n_then ⟨k + 1, _, rfl, same_lk rfl (same_h0), ⟨rfl, trivial⟩, ⟨hlp0, by omega, hall1⟩, by first | omega | (dsimp only; omega)⟩
  ·
    try simp only [decide_eq_true_eq, decide_eq_false_iff_not, Bool.not_eq_true', Bool.not_eq_false', Bool.and_eq_true, Bool.or_eq_true, Bool.or_eq_false_iff, Bool.cond_true_right, Bool.cond_false_right, Bool.cond_true_left, Bool.cond_false_left, ne_eq, Decidable.not_not, bne_iff_ne, beq_iff_eq, beq_eq_false_iff_ne, Bool.not_true, Bool.not_false] at hc0
    have hlf : leftB rows at_ = true := by
      unfold leftB
      rw [List.all_eq_true]
      intro q hq
      rw [decide_eq_true_eq]
      exact hall q (by have := List.mem_range.1 hq; omega)
    refine wp_exit ?_
    refine e_then (e_then (e_blk (?_)))
    refine n_then ?_
    refine wp_seq ?_
    refine rg ?_
    refine st (asB rfl) ?_
    refine rg_end ?_
    refine n_then ?_
    refine wp_ret ?_
    refine ret1 (v := (.bool _)) Try.results21 rfl ?_
    exact ⟨by rw [hlf], hE⟩
end Go.Proofs.Yteicgnmggkhlbaa
