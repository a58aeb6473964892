/-
  Walks of the functions, printed by a program out of the code and the loops' relations.
-/
import Derived.Test.YteicgnmggkhlbaaWkG
import Derived.Test.YteicgnmggkhlbaaProg
import Derived.KernelRfl
import Derived.Test.YteicgnmggkhlbaaP4
namespace Go.Proofs.Yteicgnmggkhlbaa
open Go.Wk Go.RowKit
set_option linter.unusedVariables false
set_option linter.unusedSimpArgs false
theorem cl45 : Callable Try.prog 45 := ⟨Try.call45⟩

/-- The table of the sections that the first 't' trains hold. -/
def MkH (rows : List Pw) (at_ : List Int) (t : Nat) (H : List Bool) : Prop := H.length = 144 ∧ ∀ r : Int, 0 ≤ r → r < 144 → (el H r = true ↔ ∃ u : Nat, u < t ∧ secT rows at_ (u : Int) = r)
theorem MkH.zero {rows : List Pw} {at_ : List Int} : MkH rows at_ 0 (List.replicate 144 false) := ⟨by simp, fun r h0 h1 => by rw [elRep h0 h1]; simp⟩
theorem MkH.put {rows : List Pw} {at_ : List Int} {t : Nat} {H : List Bool} (h : MkH rows at_ t H) (h0 : 0 ≤ secT rows at_ (t : Int)) (h1 : secT rows at_ (t : Int) < 144) : MkH rows at_ (t + 1) (H.set (secT rows at_ (t : Int)).toNat true) := by
  obtain ⟨hl, h⟩ := h
  refine ⟨by simpa using hl, fun r r0 r1 => ?_⟩
  by_cases e : r = secT rows at_ (t : Int)
  · rw [e, elSetS h0 (by omega)]; exact ⟨fun _ => ⟨t, by omega, rfl⟩, fun _ => rfl⟩
  · rw [elSetN h0 r0 e, h r r0 r1]
    constructor
    · rintro ⟨u, hu, q⟩; exact ⟨u, by omega, q⟩
    · rintro ⟨u, hu, q⟩
      by_cases k : u = t
      · subst k; exact absurd q.symm e
      · exact ⟨u, by omega, q⟩
theorem MkH.skip {rows : List Pw} {at_ : List Int} {t : Nat} {H : List Bool} (h : MkH rows at_ t H) (h0 : secT rows at_ (t : Int) = -1) : MkH rows at_ (t + 1) H := by
  obtain ⟨hl, h⟩ := h
  refine ⟨hl, fun r r0 r1 => ?_⟩
  rw [h r r0 r1]
  constructor
  · rintro ⟨u, hu, q⟩; exact ⟨u, by omega, q⟩
  · rintro ⟨u, hu, q⟩
    by_cases k : u = t
    · subst k; omega
    · exact ⟨u, by omega, q⟩

set_option maxHeartbeats 1000000 in
set_option maxRecDepth 100000 in
theorem dead_Check_ok (rows : List Pw) (ap : Option Addr) (cp l_ h_ : Nat) (at_ : List Int) (aa : Option Addr) (ca la ha_ : Nat) (w : World) (hP : PIn l_ h_ w ap rows) (hpn : (rows.length : Int) ≤ 9223372036854775807) (hA : Ints la ha_ w aa at_) (hln : ∀ r ∈ rows, (r.st.length : Int) ≤ 9223372036854775807 ∧ ∀ s ∈ r.st, (s.pts.length : Int) ≤ 9223372036854775807) (han : (at_.length : Int) ≤ 9223372036854775807) : Cal Try.prog 31 [.slice ap rows.length cp, .slice aa at_.length ca] w (fun v w' => ∃ e, v = .int .i64 e ∧ CkR rows at_ e ∧ Ext w w') := by
  replace hP := hP.full
  replace hA := Ints.full hA
  have hE : Out 0 0 w w := Out.refl _ _ w
  refine enter Try.func31 rfl Try.ntmps31 rfl ?_
  refine wp_seq ?_
  refine rg ?_
  refine st (asI rfl) ?_
  refine rg_end ?_
  refine n_then ?_
  refine wp_seq ?_
  refine wp_seq ?_
  refine rg ?_
  refine st (mvS rfl) ?_
  refine sc cl45 (prec_Valid_ok rows _ _ _ _ _ hP hpn hln) rfl ?_
  rintro v5 w1 ⟨b, rfl, hb, ho2⟩
  have hz6 := ho2.size
  replace hP := hP.ext ho2
  replace hA := hA.ext ho2
  replace hE := hE.step ho2 (.inl (Nat.le_refl _))
  refine st (y_not rfl) ?_
  refine st (mvB rfl) ?_
  refine gspL 14 rfl (fun hg7 => ?_) (fun hg7 => ?_)
  ·
    have hg7n := hg7; try simp only [decide_eq_true_eq, decide_eq_false_iff_not, Bool.not_eq_true', Bool.not_eq_false', Bool.and_eq_true, Bool.or_eq_true, Bool.or_eq_false_iff, Bool.cond_true_right, Bool.cond_false_right, Bool.cond_true_left, Bool.cond_false_left, ne_eq, Decidable.not_not, bne_iff_ne, beq_iff_eq, beq_eq_false_iff_ne, Bool.not_true, Bool.not_false] at hg7n
    refine sts rfl rfl hg7 ?_
    refine sts rfl rfl hg7 ?_
    refine sts rfl rfl hg7 ?_
    refine sts rfl rfl hg7 ?_
    refine sts rfl rfl hg7 ?_
    refine st (y_pickT rfl hg7 (v := .bool _) rfl) ?_
    refine rg_end ?_
    refine n_then ?_
    refine cnd rfl (fun hc0 => ?_) (fun hc0 => absurd hc0 (by decide))
    have hno : ¬ (VaP rows ∧ GoP rows at_) := fun h => by
      have h1 := hb.2 h.1
      have h2 := h.2.len
      first
      | (rw [show b = false by assumption] at h1; cases h1)
      | omega
    refine wp_seq ?_
    refine rg ?_
    refine st (asI rfl) ?_
    refine rg_end ?_
    refine n_then ?_
    refine wp_ret ?_
    refine r_then (ret1 (v := (.int .i64 _)) Try.results31 rfl ?_)
    exact ⟨1, rfl, ⟨fun _ => rfl, fun h1 h2 => absurd ⟨h1, h2⟩ hno, fun h1 h2 => absurd ⟨h1, h2⟩ hno⟩, hE⟩
  ·
    have hg7n := hg7; try simp only [decide_eq_true_eq, decide_eq_false_iff_not, Bool.not_eq_true', Bool.not_eq_false', Bool.and_eq_true, Bool.or_eq_true, Bool.or_eq_false_iff, Bool.cond_true_right, Bool.cond_false_right, Bool.cond_true_left, Bool.cond_false_left, ne_eq, Decidable.not_not, bne_iff_ne, beq_iff_eq, beq_eq_false_iff_ne, Bool.not_true, Bool.not_false] at hg7n
    refine stg rfl rfl hg7 (mvS rfl) ?_
    refine stg rfl rfl hg7 (y_len Try.underlying22 rfl) ?_
    refine stg rfl rfl hg7 (mvS rfl) ?_
    refine stg rfl rfl hg7 (y_len Try.underlying23 rfl) ?_
    refine stg rfl rfl hg7 (y_neq rfl rfl) ?_
    refine st (y_pickF rfl hg7 (v := .bool _) rfl) ?_
    refine rg_end ?_
    refine n_then ?_
    refine cnd rfl (fun hc0 => ?_) (fun hc0 => ?_)
    ·
      try simp only [decide_eq_true_eq, decide_eq_false_iff_not, Bool.not_eq_true', Bool.not_eq_false', Bool.and_eq_true, Bool.or_eq_true, Bool.or_eq_false_iff, Bool.cond_true_right, Bool.cond_false_right, Bool.cond_true_left, Bool.cond_false_left, ne_eq, Decidable.not_not, bne_iff_ne, beq_iff_eq, beq_eq_false_iff_ne, Bool.not_true, Bool.not_false] at hc0
      have hno : ¬ (VaP rows ∧ GoP rows at_) := fun h => by
        have h1 := hb.2 h.1
        have h2 := h.2.len
        first
        | (rw [show b = false by assumption] at h1; cases h1)
        | omega
      refine wp_seq ?_
      refine rg ?_
      refine st (asI rfl) ?_
      refine rg_end ?_
      refine n_then ?_
      refine wp_ret ?_
      refine r_then (ret1 (v := (.int .i64 _)) Try.results31 rfl ?_)
      exact ⟨1, rfl, ⟨fun _ => rfl, fun h1 h2 => absurd ⟨h1, h2⟩ hno, fun h1 h2 => absurd ⟨h1, h2⟩ hno⟩, hE⟩
    ·
      try simp only [decide_eq_true_eq, decide_eq_false_iff_not, Bool.not_eq_true', Bool.not_eq_false', Bool.and_eq_true, Bool.or_eq_true, Bool.or_eq_false_iff, Bool.cond_true_right, Bool.cond_false_right, Bool.cond_true_left, Bool.cond_false_left, ne_eq, Decidable.not_not, bne_iff_ne, beq_iff_eq, beq_eq_false_iff_ne, Bool.not_true, Bool.not_false] at hc0
      have hbt : b = true := by assumption
      have hva := hb.1 hbt
      have hl : at_.length = rows.length := by omega
      have hrl := hva.len
      refine wp_skip ?_
      refine n_then ?_
      refine wp_seq ?_
      refine wp_seq ?_
      refine rg ?_
      refine st (mvS rfl) ?_
      refine st (y_len Try.underlying23 rfl) ?_
      refine st (mvI rfl) ?_
      refine rg_end ?_
      refine n_then ?_
      refine wp_block ?_
      refine lp (γ := Nat) [4, 5, 6, 23, 24, 25, 26, 27, 28, 29, 30, 31, 32, 33, 34, 35, 36, 37, 38, 39, 40, 41, 42] (fun k => [(23, .int .i64 (k : Int))]) (fun k w_ => Ext w1 w_ ∧ (k : Int) ≤ rows.length ∧ ∀ q : Nat, q < k → -1 ≤ el at_ (q : Int) ∧ el at_ (q : Int) ≤ (el rows (q : Int)).st.length) (fun k => rows.length - k) 0 ⟨rfl, trivial⟩ ⟨Out.refl _ _ _, by omega, fun q hq => by omega⟩ ?_
      rintro k hav_ w8 ⟨ho9, hk_, hall⟩
      have hlp0 := ho9
      have hz10 := ho9.size
      replace hP := hP.ext ho9
      replace hA := hA.ext ho9
      replace hE := hE.step ho9 (.inl (Nat.le_refl _))
      refine wp_seq ?_
      refine rg ?_
      refine st (y_lss rfl rfl) ?_
      refine rg_end ?_
      refine n_then ?_
      refine wp_seq ?_
      refine cnd rfl (fun hc1 => ?_) (fun hc1 => ?_)
      ·
        try simp only [decide_eq_true_eq, decide_eq_false_iff_not, Bool.not_eq_true', Bool.not_eq_false', Bool.and_eq_true, Bool.or_eq_true, Bool.or_eq_false_iff, Bool.cond_true_right, Bool.cond_false_right, Bool.cond_true_left, Bool.cond_false_left, ne_eq, Decidable.not_not, bne_iff_ne, beq_iff_eq, beq_eq_false_iff_ne, Bool.not_true, Bool.not_false] at hc1
        refine wp_skip ?_
        refine n_then ?_
        refine wp_seq ?_
        refine wp_block ?_
        refine wp_seq ?_
        refine rg ?_
        refine st (mvI rfl) ?_
        refine st (y_ix hP.tb sl23 rfl (rfl) rfl (by omega) (by omega)) ?_
        refine st (y_le hP.tb na35 rfl (by omega) (by omega) rfl) ?_
        refine st (asI rfl) ?_
        refine st (asS rfl) ?_
        refine rg_end ?_
        refine n_then ?_
        refine wp_seq ?_
        refine rg ?_
        refine st (mvS rfl) ?_
        refine st (mvI rfl) ?_
        refine st (y_ix hA sl22 rfl (rfl) rfl (by omega) (by omega)) ?_
        refine st (y_le hA na3 rfl (by omega) (by omega) rfl) ?_
        refine st (y_lss rfl rfl) ?_
        refine st (mvB rfl) ?_
        refine gspL 33 rfl (fun hg11 => ?_) (fun hg11 => ?_)
        ·
          have hg11n := hg11; try simp only [decide_eq_true_eq, decide_eq_false_iff_not, Bool.not_eq_true', Bool.not_eq_false', Bool.and_eq_true, Bool.or_eq_true, Bool.or_eq_false_iff, Bool.cond_true_right, Bool.cond_false_right, Bool.cond_true_left, Bool.cond_false_left, ne_eq, Decidable.not_not, bne_iff_ne, beq_iff_eq, beq_eq_false_iff_ne, Bool.not_true, Bool.not_false] at hg11n
          refine sts rfl rfl hg11 ?_
          refine sts rfl rfl hg11 ?_
          refine sts rfl rfl hg11 ?_
          refine sts rfl rfl hg11 ?_
          refine sts rfl rfl hg11 ?_
          refine sts rfl rfl hg11 ?_
          refine sts rfl rfl hg11 ?_
          refine st (y_pickT rfl hg11 (v := .bool _) rfl) ?_
          refine rg_end ?_
          refine n_then ?_
          refine cnd rfl (fun hc2 => ?_) (fun hc2 => absurd hc2 (by decide))
          have hno : ¬ (VaP rows ∧ GoP rows at_) := fun h => by
            have := h.2.rng k (by omega)
            omega
          refine wp_seq ?_
          refine rg ?_
          refine st (asI rfl) ?_
          refine rg_end ?_
          refine n_then ?_
          refine wp_ret ?_
          refine r_blk (r_then (r_then (r_blk (r_then (ret1 (v := (.int .i64 _)) Try.results31 rfl ?_)))))
          exact ⟨1, rfl, ⟨fun _ => rfl, fun h1 h2 => absurd ⟨h1, h2⟩ hno, fun h1 h2 => absurd ⟨h1, h2⟩ hno⟩, hE⟩
        ·
          have hg11n := hg11; try simp only [decide_eq_true_eq, decide_eq_false_iff_not, Bool.not_eq_true', Bool.not_eq_false', Bool.and_eq_true, Bool.or_eq_true, Bool.or_eq_false_iff, Bool.cond_true_right, Bool.cond_false_right, Bool.cond_true_left, Bool.cond_false_left, ne_eq, Decidable.not_not, bne_iff_ne, beq_iff_eq, beq_eq_false_iff_ne, Bool.not_true, Bool.not_false] at hg11n
          refine stg rfl rfl hg11 (mvS rfl) ?_
          refine stg rfl rfl hg11 (mvI rfl) ?_
          refine stg rfl rfl hg11 (y_ix hA sl22 rfl (rfl) rfl (by omega) (by omega)) ?_
          refine stg rfl rfl hg11 (y_le hA na3 rfl (by omega) (by omega) rfl) ?_
          refine stg rfl rfl hg11 (mvS rfl) ?_
          refine stg rfl rfl hg11 (y_len Try.underlying35 rfl) ?_
          refine stg rfl rfl hg11 (y_gtr rfl rfl) ?_
          refine st (y_pickF rfl hg11 (v := .bool _) rfl) ?_
          refine rg_end ?_
          refine n_then ?_
          refine cnd rfl (fun hc2 => ?_) (fun hc2 => ?_)
          ·
            try simp only [decide_eq_true_eq, decide_eq_false_iff_not, Bool.not_eq_true', Bool.not_eq_false', Bool.and_eq_true, Bool.or_eq_true, Bool.or_eq_false_iff, Bool.cond_true_right, Bool.cond_false_right, Bool.cond_true_left, Bool.cond_false_left, ne_eq, Decidable.not_not, bne_iff_ne, beq_iff_eq, beq_eq_false_iff_ne, Bool.not_true, Bool.not_false] at hc2
            have hno : ¬ (VaP rows ∧ GoP rows at_) := fun h => by
              have := h.2.rng k (by omega)
              omega
            refine wp_seq ?_
            refine rg ?_
            refine st (asI rfl) ?_
            refine rg_end ?_
            refine n_then ?_
            refine wp_ret ?_
            refine r_blk (r_then (r_then (r_blk (r_then (ret1 (v := (.int .i64 _)) Try.results31 rfl ?_)))))
            exact ⟨1, rfl, ⟨fun _ => rfl, fun h1 h2 => absurd ⟨h1, h2⟩ hno, fun h1 h2 => absurd ⟨h1, h2⟩ hno⟩, hE⟩
          ·
            try simp only [decide_eq_true_eq, decide_eq_false_iff_not, Bool.not_eq_true', Bool.not_eq_false', Bool.and_eq_true, Bool.or_eq_true, Bool.or_eq_false_iff, Bool.cond_true_right, Bool.cond_false_right, Bool.cond_true_left, Bool.cond_false_left, ne_eq, Decidable.not_not, bne_iff_ne, beq_iff_eq, beq_eq_false_iff_ne, Bool.not_true, Bool.not_false] at hc2
            have hall1 : ∀ q : Nat, q < k + 1 → -1 ≤ el at_ (q : Int) ∧ el at_ (q : Int) ≤ (el rows (q : Int)).st.length := fun q hq => by
              by_cases e : q = k
              · subst e; omega
              · exact hall q (by omega)
            refine wp_skip ?_
            refine n_blk ?_
            refine n_then ?_
            refine rg ?_
            refine st (y_add rfl rfl (by omega)) ?_
            refine st (mvI rfl) ?_
            refine rg_end ?_
            exact n_then ⟨k + 1, _, rfl, same_lk rfl (same_h0), ⟨rfl, trivial⟩, ⟨hlp0, by omega, hall1⟩, by first | omega | (dsimp only; omega)⟩
      ·
        try simp only [decide_eq_true_eq, decide_eq_false_iff_not, Bool.not_eq_true', Bool.not_eq_false', Bool.and_eq_true, Bool.or_eq_true, Bool.or_eq_false_iff, Bool.cond_true_right, Bool.cond_false_right, Bool.cond_true_left, Bool.cond_false_left, ne_eq, Decidable.not_not, bne_iff_ne, beq_iff_eq, beq_eq_false_iff_ne, Bool.not_true, Bool.not_false] at hc1
        have hg : GoP rows at_ := ⟨hl, fun q hq => hall q (by omega)⟩
        refine wp_exit ?_
        refine e_then (e_then (e_blk (?_)))
        refine n_then ?_
        refine wp_seq ?_
        refine rg ?_
        refine sd (d_allocR (sz := 1) (m := 144) (lo := w.heap.size) (enc := encB) (e0 := false) zerR70 zerC70 (fun _ => rfl) (by unfold maxLen; omega) (by omega) ?_)
        intro bH w12 hbbH hs14 ho13 hH
        have hz16 := ho13.size
        replace hP := hP.ext ho13
        replace hA := hA.ext ho13
        replace hE := hE.step ho13 (.inl (Nat.le_refl _))
        refine rg_end ?_
        refine n_then ?_
        refine wp_seq ?_
        refine wp_seq ?_
        refine rg ?_
        refine st (mvS rfl) ?_
        refine st (y_len Try.underlying23 rfl) ?_
        refine st (mvI rfl) ?_
        refine rg_end ?_
        refine n_then ?_
        refine wp_block ?_
        obtain ⟨zH, hzH⟩ : ∃ z, z = bH + 1 := ⟨_, rfl⟩
        rw [← hzH] at hH
        refine lp (γ := Nat × List Bool) [4, 8, 9, 10, 45, 46, 47, 48, 49, 50, 51, 52, 53, 54, 55, 56, 57, 58, 59, 60, 61, 62, 63, 64, 65, 66, 67, 68, 69, 70, 71, 72, 73, 74, 75, 76, 77] (fun ⟨t, H⟩ => [(45, .int .i64 (t : Int))]) (fun ⟨t, H⟩ w_ => Out bH (bH + 1) w12 w_ ∧ (t : Int) ≤ rows.length ∧ (∀ p : Nat, p < t → ∀ q : Nat, q < p → ¬ (0 ≤ secT rows at_ (p : Int) ∧ secT rows at_ (p : Int) = secT rows at_ (q : Int))) ∧ MkH rows at_ t H ∧ Ow 70 encB 1 w.heap.size zH w_ (some ⟨bH, 0, none⟩) 144 H) (fun ⟨t, H⟩ => rows.length - t) (0, List.replicate 144 false) ⟨rfl, trivial⟩ ⟨Out.refl _ _ _, by omega, (fun p hp => by omega), MkH.zero, hH⟩ ?_
        rintro ⟨t, H⟩ hav_ w17 ⟨ho18, ht_, hnt, hMH, hH⟩
        have hlp1 := ho18
        have hz19 := ho18.size
        replace hP := hP.out ho18 (by first | omega | (simp only [blk_some, hi1_some] at *; omega))
        replace hA := hA.out ho18 (by first | omega | (simp only [blk_some, hi1_some] at *; omega))
        replace hE := hE.step ho18 (by first | omega | (simp only [blk_some, hi1_some] at *; omega))
        refine wp_seq ?_
        refine rg ?_
        refine st (y_lss rfl rfl) ?_
        refine rg_end ?_
        refine n_then ?_
        refine wp_seq ?_
        refine cnd rfl (fun hc3 => ?_) (fun hc3 => ?_)
        ·
          try simp only [decide_eq_true_eq, decide_eq_false_iff_not, Bool.not_eq_true', Bool.not_eq_false', Bool.and_eq_true, Bool.or_eq_true, Bool.or_eq_false_iff, Bool.cond_true_right, Bool.cond_false_right, Bool.cond_true_left, Bool.cond_false_left, ne_eq, Decidable.not_not, bne_iff_ne, beq_iff_eq, beq_eq_false_iff_ne, Bool.not_true, Bool.not_false] at hc3
          have hmr := el_mem (l := rows) (i := (t : Int)) (by omega) hc3
          have hR := hP.row _ hmr
          have hrk := va_row hva hc3
          have hgr := hg.rng t (by omega)
          refine wp_skip ?_
          refine n_then ?_
          refine wp_seq ?_
          refine wp_block ?_
          refine wp_seq ?_
          refine rg ?_
          refine st (mvI rfl) ?_
          refine st (y_ix hP.tb sl23 rfl (rfl) rfl (by omega) (by omega)) ?_
          refine st (y_le hP.tb na35 rfl (by omega) (by omega) rfl) ?_
          refine st (asI rfl) ?_
          refine st (asS rfl) ?_
          refine rg_end ?_
          refine n_then ?_
          refine wp_seq ?_
          refine wp_seq ?_
          refine rg ?_
          refine st (mvS rfl) ?_
          refine st (mvI rfl) ?_
          refine st (y_ix hA sl22 rfl (rfl) rfl (by omega) (by omega)) ?_
          refine st (y_le hA na3 rfl (by omega) (by omega) rfl) ?_
          refine st (y_lss rfl rfl) ?_
          refine st (mvB rfl) ?_
          refine gspL 55 rfl (fun hg20 => ?_) (fun hg20 => ?_)
          ·
            have hg20n := hg20; try simp only [decide_eq_true_eq, decide_eq_false_iff_not, Bool.not_eq_true', Bool.not_eq_false', Bool.and_eq_true, Bool.or_eq_true, Bool.or_eq_false_iff, Bool.cond_true_right, Bool.cond_false_right, Bool.cond_true_left, Bool.cond_false_left, ne_eq, Decidable.not_not, bne_iff_ne, beq_iff_eq, beq_eq_false_iff_ne, Bool.not_true, Bool.not_false] at hg20n
            refine sts rfl rfl hg20 ?_
            refine sts rfl rfl hg20 ?_
            refine sts rfl rfl hg20 ?_
            refine sts rfl rfl hg20 ?_
            refine sts rfl rfl hg20 ?_
            refine sts rfl rfl hg20 ?_
            refine sts rfl rfl hg20 ?_
            refine st (y_pickT rfl hg20 (v := .bool _) rfl) ?_
            refine rg_end ?_
            refine n_then ?_
            refine cnd rfl (fun hc4 => ?_) (fun hc4 => absurd hc4 (by decide))
            have hs : secT rows at_ (t : Int) = -1 := by unfold secT; rw [if_pos (by omega)]
            have hMH1 := hMH.skip hs
            have hnt1 : ∀ p : Nat, p < t + 1 → ∀ q : Nat, q < p → ¬ (0 ≤ secT rows at_ (p : Int) ∧ secT rows at_ (p : Int) = secT rows at_ (q : Int)) := fun p hp q hq => by
              by_cases e : p = t
              · subst e; omega
              · exact hnt p (by omega) q hq
            refine wp_exit ?_
            refine e_then (e_blk (?_))
            refine n_then ?_
            refine rg ?_
            refine st (y_add rfl rfl (by omega)) ?_
            refine st (mvI rfl) ?_
            refine rg_end ?_
            exact n_then ⟨(t + 1, _), _, rfl, same_lk rfl (same_h0), ⟨rfl, trivial⟩, ⟨hlp1, by omega, hnt1, hMH1, hH⟩, by first | omega | (dsimp only; omega)⟩
          ·
            have hg20n := hg20; try simp only [decide_eq_true_eq, decide_eq_false_iff_not, Bool.not_eq_true', Bool.not_eq_false', Bool.and_eq_true, Bool.or_eq_true, Bool.or_eq_false_iff, Bool.cond_true_right, Bool.cond_false_right, Bool.cond_true_left, Bool.cond_false_left, ne_eq, Decidable.not_not, bne_iff_ne, beq_iff_eq, beq_eq_false_iff_ne, Bool.not_true, Bool.not_false] at hg20n
            refine stg rfl rfl hg20 (mvS rfl) ?_
            refine stg rfl rfl hg20 (mvI rfl) ?_
            refine stg rfl rfl hg20 (y_ix hA sl22 rfl (rfl) rfl (by omega) (by omega)) ?_
            refine stg rfl rfl hg20 (y_le hA na3 rfl (by omega) (by omega) rfl) ?_
            refine stg rfl rfl hg20 (mvS rfl) ?_
            refine stg rfl rfl hg20 (y_len Try.underlying35 rfl) ?_
            refine stg rfl rfl hg20 (y_eql rfl rfl) ?_
            refine st (y_pickF rfl hg20 (v := .bool _) rfl) ?_
            refine rg_end ?_
            refine n_then ?_
            refine cnd rfl (fun hc4 => ?_) (fun hc4 => ?_)
            ·
              try simp only [decide_eq_true_eq, decide_eq_false_iff_not, Bool.not_eq_true', Bool.not_eq_false', Bool.and_eq_true, Bool.or_eq_true, Bool.or_eq_false_iff, Bool.cond_true_right, Bool.cond_false_right, Bool.cond_true_left, Bool.cond_false_left, ne_eq, Decidable.not_not, bne_iff_ne, beq_iff_eq, beq_eq_false_iff_ne, Bool.not_true, Bool.not_false] at hc4
              have hs : secT rows at_ (t : Int) = -1 := by unfold secT; rw [if_pos (by omega)]
              have hMH1 := hMH.skip hs
              have hnt1 : ∀ p : Nat, p < t + 1 → ∀ q : Nat, q < p → ¬ (0 ≤ secT rows at_ (p : Int) ∧ secT rows at_ (p : Int) = secT rows at_ (q : Int)) := fun p hp q hq => by
                by_cases e : p = t
                · subst e; omega
                · exact hnt p (by omega) q hq
              refine wp_exit ?_
              refine e_then (e_blk (?_))
              refine n_then ?_
              refine rg ?_
              refine st (y_add rfl rfl (by omega)) ?_
              refine st (mvI rfl) ?_
              refine rg_end ?_
              exact n_then ⟨(t + 1, _), _, rfl, same_lk rfl (same_h0), ⟨rfl, trivial⟩, ⟨hlp1, by omega, hnt1, hMH1, hH⟩, by first | omega | (dsimp only; omega)⟩
            ·
              try simp only [decide_eq_true_eq, decide_eq_false_iff_not, Bool.not_eq_true', Bool.not_eq_false', Bool.and_eq_true, Bool.or_eq_true, Bool.or_eq_false_iff, Bool.cond_true_right, Bool.cond_false_right, Bool.cond_true_left, Bool.cond_false_left, ne_eq, Decidable.not_not, bne_iff_ne, beq_iff_eq, beq_eq_false_iff_ne, Bool.not_true, Bool.not_false] at hc4
              have hs : secT rows at_ (t : Int) = (el (el rows (t : Int)).st (el at_ (t : Int))).sec := by unfold secT; rw [if_neg (by omega)]
              obtain ⟨p_, hp_⟩ := Int.eq_ofNat_of_zero_le (show 0 ≤ el at_ (t : Int) by omega)
              have hso := hrk.sg p_ (by omega)
              rw [← hp_] at hso
              have s0 := hso.s0
              have s1 := hso.s1
              have hHl := hMH.1
              refine wp_skip ?_
              refine n_then ?_
              refine wp_seq ?_
              refine rg ?_
              refine st (mvS rfl) ?_
              refine st (mvS rfl) ?_
              refine st (mvI rfl) ?_
              refine st (y_ix hA sl22 rfl (rfl) rfl (by omega) (by omega)) ?_
              refine st (y_le hA na3 rfl (by omega) (by omega) rfl) ?_
              refine st (y_ix hR sl35 rfl (rfl) rfl (by omega) (by omega)) ?_
              refine st (y_fld fld44_0 rfl) ?_
              refine st (y_lf hR na3 rfl (by omega) (by omega) rfl) ?_
              refine st (asI rfl) ?_
              refine rg_end ?_
              refine n_then ?_
              refine wp_seq ?_
              refine wp_seq ?_
              refine rg ?_
              refine st (mvI rfl) ?_
              refine st (y_ixR Try.underlying70 sz4 rfl rfl rfl (by omega) (by omega)) ?_
              refine st (y_le hH.sl na4 rfl (by omega) (by omega) rfl) ?_
              refine rg_end ?_
              refine n_then ?_
              refine cnd rfl (fun hc5 => ?_) (fun hc5 => ?_)
              ·
                try simp only [decide_eq_true_eq, decide_eq_false_iff_not, Bool.not_eq_true', Bool.not_eq_false', Bool.and_eq_true, Bool.or_eq_true, Bool.or_eq_false_iff, Bool.cond_true_right, Bool.cond_false_right, Bool.cond_true_left, Bool.cond_false_left, ne_eq, Decidable.not_not, bne_iff_ne, beq_iff_eq, beq_eq_false_iff_ne, Bool.not_true, Bool.not_false] at hc5
                obtain ⟨u, hu, he⟩ := (hMH.2 _ s0 s1).1 hc5
                have hhel : Hel rows at_ := ⟨t, u, by omega, hu, by omega, by omega⟩
                refine wp_seq ?_
                refine rg ?_
                refine st (asI rfl) ?_
                refine rg_end ?_
                refine n_then ?_
                refine wp_ret ?_
                refine r_then (r_blk (r_then (r_then (r_blk (r_then (ret1 (v := (.int .i64 _)) Try.results31 rfl ?_))))))
                exact ⟨17, rfl, ⟨fun h => absurd ⟨hva, hg⟩ h, fun _ _ _ => rfl, fun _ _ h => absurd hhel h⟩, hE⟩
              ·
                try simp only [decide_eq_true_eq, decide_eq_false_iff_not, Bool.not_eq_true', Bool.not_eq_false', Bool.and_eq_true, Bool.or_eq_true, Bool.or_eq_false_iff, Bool.cond_true_right, Bool.cond_false_right, Bool.cond_true_left, Bool.cond_false_left, ne_eq, Decidable.not_not, bne_iff_ne, beq_iff_eq, beq_eq_false_iff_ne, Bool.not_true, Bool.not_false] at hc5
                have hnt1 : ∀ p : Nat, p < t + 1 → ∀ q : Nat, q < p → ¬ (0 ≤ secT rows at_ (p : Int) ∧ secT rows at_ (p : Int) = secT rows at_ (q : Int)) := fun p hp q hq => by
                  by_cases e : p = t
                  · subst e; rintro ⟨h1, h2⟩; have h3 := (hMH.2 _ s0 s1).2 ⟨q, hq, by omega⟩; rw [hc5] at h3; cases h3
                  · exact hnt p (by omega) q hq
                refine wp_skip ?_
                refine n_then ?_
                refine rg ?_
                refine st (mvI rfl) ?_
                refine st (y_ixR Try.underlying70 sz4 rfl rfl rfl (by omega) (by omega)) ?_
                refine sd0 (d_se (j := 0) (e' := true) hH sz4 rfl rfl rfl (by omega) (by omega) (Nat.le_of_ble_eq_true rfl) rfl ?_)
                intro w21 hs23 ho22 hH'
                have hrhH := hH.rng
                clear hH; have hH := hH'; clear hH'
                have hz24 := ho22.size
                replace hP := hP.out ho22 (by first | omega | (simp only [blk_some, hi1_some] at *; omega))
                replace hA := hA.out ho22 (by first | omega | (simp only [blk_some, hi1_some] at *; omega))
                replace hE := hE.step ho22 (by first | omega | (simp only [blk_some, hi1_some] at *; omega))
                replace hlp1 := hlp1.step ho22 (by first | omega | (simp only [blk_some, hi1_some] at *; omega))
                replace hR := hR.out ho22 (by first | omega | (simp only [blk_some, hi1_some] at *; omega))
                have hMH1 := hMH.put (by omega) (by omega)
                rw [hs] at hMH1
                refine rg_end ?_
                refine n_blk ?_
                refine n_then ?_
                refine rg ?_
                refine st (y_add rfl rfl (by omega)) ?_
                refine st (mvI rfl) ?_
                refine rg_end ?_
                exact n_then ⟨(t + 1, _), _, rfl, same_lk rfl (same_h0), ⟨rfl, trivial⟩, ⟨hlp1, by omega, hnt1, hMH1, hH⟩, by first | omega | (dsimp only; omega)⟩
        ·
          try simp only [decide_eq_true_eq, decide_eq_false_iff_not, Bool.not_eq_true', Bool.not_eq_false', Bool.and_eq_true, Bool.or_eq_true, Bool.or_eq_false_iff, Bool.cond_true_right, Bool.cond_false_right, Bool.cond_true_left, Bool.cond_false_left, ne_eq, Decidable.not_not, bne_iff_ne, beq_iff_eq, beq_eq_false_iff_ne, Bool.not_true, Bool.not_false] at hc3
          have hnh : ¬ Hel rows at_ := fun ⟨p, q, h1, h2, h3, h4⟩ => hnt p (by omega) q h2 ⟨h3, h4⟩
          refine wp_exit ?_
          refine e_then (e_then (e_blk (?_)))
          refine n_then ?_
          refine wp_seq ?_
          refine rg ?_
          refine st (asI rfl) ?_
          refine rg_end ?_
          refine n_then ?_
          refine wp_ret ?_
          refine ret1 (v := (.int .i64 _)) Try.results31 rfl ?_
          exact ⟨0, rfl, ⟨fun h => absurd ⟨hva, hg⟩ h, fun _ _ h => absurd h hnh, fun _ _ _ => rfl⟩, hE⟩
end Go.Proofs.Yteicgnmggkhlbaa
