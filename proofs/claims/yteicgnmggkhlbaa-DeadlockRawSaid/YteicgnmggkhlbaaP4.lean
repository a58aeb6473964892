/-
  Walks of the functions, printed by a program out of the code and the loops' relations.
-/
import Derived.Test.YteicgnmggkhlbaaWkD
import Derived.Test.YteicgnmggkhlbaaProg
import Derived.KernelRfl
import Derived.Test.YteicgnmggkhlbaaP3
namespace Go.Proofs.Yteicgnmggkhlbaa
open Go.Wk Go.RowKit
set_option linter.unusedVariables false
set_option linter.unusedSimpArgs false
theorem cl35 : Callable Try.prog 35 := ⟨Try.call35⟩
theorem cl36 : Callable Try.prog 36 := ⟨Try.call36⟩

set_option maxHeartbeats 1000000 in
set_option maxRecDepth 100000 in
theorem ref35_CheckState_ok (rows : List Pw) (ap : Option Addr) (cp l_ h_ : Nat) (at_ : List Int) (aa : Option Addr) (ca la ha_ : Nat) (w : World) (hP : PIn l_ h_ w ap rows) (hpn : (rows.length : Int) ≤ 9223372036854775807) (hA : Ints la ha_ w aa at_) (hln : ∀ r ∈ rows, (r.st.length : Int) ≤ 9223372036854775807 ∧ ∀ s ∈ r.st, (s.pts.length : Int) ≤ 9223372036854775807) (han : (at_.length : Int) ≤ 9223372036854775807) : Cal Try.prog 15 [.slice ap rows.length cp, .slice aa at_.length ca] w (fun v w' => ∃ e, v = .int .i64 e ∧ CkR rows at_ e ∧ Ext w w') := by
  replace hP := hP.full
  replace hA := Ints.full hA
  have hE : Out 0 0 w w := Out.refl _ _ w
  refine enter Try.func15 rfl Try.ntmps15 rfl ?_
  refine wp_seq ?_
  refine rg ?_
  refine st (asI rfl) ?_
  refine rg_end ?_
  refine n_then ?_
  refine wp_seq ?_
  refine wp_seq ?_
  refine rg ?_
  refine st (mvS rfl) ?_
  refine sc cl35 (ref35_Valid_ok rows _ _ _ _ _ hP hpn hln) rfl ?_
  rintro v5 w1 ⟨b, rfl, hb, ho2⟩
  have hz6 := ho2.size
  replace hP := hP.ext ho2
  replace hA := hA.ext ho2
  replace hE := hE.step ho2 (.inl (Nat.le_refl _))
  refine st (y_not rfl) ?_
  refine st (mvB rfl) ?_
  refine gspL 11 rfl (fun hg7 => ?_) (fun hg7 => ?_)
  ·
    have hg7n := hg7; try simp only [decide_eq_true_eq, decide_eq_false_iff_not, Bool.not_eq_true', Bool.not_eq_false', Bool.and_eq_true, Bool.or_eq_true, Bool.or_eq_false_iff, Bool.cond_true_right, Bool.cond_false_right, Bool.cond_true_left, Bool.cond_false_left, ne_eq, Decidable.not_not, bne_iff_ne, beq_iff_eq, beq_eq_false_iff_ne, Bool.not_true, Bool.not_false] at hg7n
    refine sts rfl rfl hg7 ?_
    refine sts rfl rfl hg7 ?_
    refine sts rfl rfl hg7 ?_
    refine sts rfl rfl hg7 ?_
    refine st (y_pickT rfl hg7 (v := .bool _) rfl) ?_
    refine rg_end ?_
    refine n_then ?_
    refine cnd rfl (fun hc0 => ?_) (fun hc0 => absurd hc0 (by decide))
    have hno : ¬ (VaP rows ∧ GoP rows at_) := fun h => by
      have h1 := hb.2 h.1
      first
      | (rw [show b = false by assumption] at h1; cases h1)
      | (have h2 := hb2.2 h.2; rw [show b2 = false by assumption] at h2; cases h2)
    refine wp_seq ?_
    refine rg ?_
    refine st (asI rfl) ?_
    refine rg_end ?_
    refine n_then ?_
    refine wp_ret ?_
    refine r_then (ret1 (v := (.int .i64 _)) Try.results15 rfl ?_)
    exact ⟨1, rfl, ⟨fun _ => rfl, fun h1 h2 => absurd ⟨h1, h2⟩ hno, fun h1 h2 => absurd ⟨h1, h2⟩ hno⟩, hE⟩
  ·
    have hg7n := hg7; try simp only [decide_eq_true_eq, decide_eq_false_iff_not, Bool.not_eq_true', Bool.not_eq_false', Bool.and_eq_true, Bool.or_eq_true, Bool.or_eq_false_iff, Bool.cond_true_right, Bool.cond_false_right, Bool.cond_true_left, Bool.cond_false_left, ne_eq, Decidable.not_not, bne_iff_ne, beq_iff_eq, beq_eq_false_iff_ne, Bool.not_true, Bool.not_false] at hg7n
    refine stg rfl rfl hg7 (mvS rfl) ?_
    refine stg rfl rfl hg7 (mvS rfl) ?_
    refine scg rfl rfl hg7 cl36 (ref35_Good_ok rows _ _ _ _ at_ _ _ _ _ _ hP hpn hA han) rfl ?_
    rintro v12 w8 ⟨b2, rfl, hb2, ho9⟩
    have hz13 := ho9.size
    replace hP := hP.ext ho9
    replace hA := hA.ext ho9
    replace hE := hE.step ho9 (.inl (Nat.le_refl _))
    refine stg rfl rfl hg7 (y_not rfl) ?_
    refine st (y_pickF rfl hg7 (v := .bool _) rfl) ?_
    refine rg_end ?_
    refine n_then ?_
    refine cnd rfl (fun hc0 => ?_) (fun hc0 => ?_)
    ·
      try simp only [decide_eq_true_eq, decide_eq_false_iff_not, Bool.not_eq_true', Bool.not_eq_false', Bool.and_eq_true, Bool.or_eq_true, Bool.or_eq_false_iff, Bool.cond_true_right, Bool.cond_false_right, Bool.cond_true_left, Bool.cond_false_left, ne_eq, Decidable.not_not, bne_iff_ne, beq_iff_eq, beq_eq_false_iff_ne, Bool.not_true, Bool.not_false] at hc0
      have hno : ¬ (VaP rows ∧ GoP rows at_) := fun h => by
        have h1 := hb.2 h.1
        first
        | (rw [show b = false by assumption] at h1; cases h1)
        | (have h2 := hb2.2 h.2; rw [show b2 = false by assumption] at h2; cases h2)
      refine wp_seq ?_
      refine rg ?_
      refine st (asI rfl) ?_
      refine rg_end ?_
      refine n_then ?_
      refine wp_ret ?_
      refine r_then (ret1 (v := (.int .i64 _)) Try.results15 rfl ?_)
      exact ⟨1, rfl, ⟨fun _ => rfl, fun h1 h2 => absurd ⟨h1, h2⟩ hno, fun h1 h2 => absurd ⟨h1, h2⟩ hno⟩, hE⟩
    ·
      try simp only [decide_eq_true_eq, decide_eq_false_iff_not, Bool.not_eq_true', Bool.not_eq_false', Bool.and_eq_true, Bool.or_eq_true, Bool.or_eq_false_iff, Bool.cond_true_right, Bool.cond_false_right, Bool.cond_true_left, Bool.cond_false_left, ne_eq, Decidable.not_not, bne_iff_ne, beq_iff_eq, beq_eq_false_iff_ne, Bool.not_true, Bool.not_false] at hc0
      have hbt : b = true := by assumption
      have hva := hb.1 hbt
      have hg := hb2.1 hc0
      have hrl := hva.len
      refine wp_skip ?_
      refine n_then ?_
      refine wp_seq ?_
      refine wp_seq ?_
      refine rg ?_
      refine st (mvS rfl) ?_
      refine st (y_len Try.underlying23 rfl) ?_
      refine st (mvI rfl) ?_
      refine rg_end ?_
      refine n_then ?_
      refine wp_block ?_
      refine lp (γ := Nat) [4, 5, 6, 7, 19, 20, 21, 22, 23, 24, 25, 26, 27, 28, 29, 30, 31, 32, 33, 34, 35, 36, 37, 38, 39, 40, 41] (fun t => [(19, .int .i64 (t : Int))]) (fun t w_ => Ext w8 w_ ∧ (t : Int) ≤ rows.length ∧ ∀ p : Nat, p < t → ∀ q : Nat, q < p → ¬ (0 ≤ secT rows at_ (p : Int) ∧ secT rows at_ (p : Int) = secT rows at_ (q : Int))) (fun t => rows.length - t) 0 ⟨rfl, trivial⟩ ⟨Out.refl _ _ _, by omega, fun p hp => by omega⟩ ?_
      rintro t hav_ w14 ⟨ho15, ht_, hnt⟩
      have hlp0 := ho15
      have hz16 := ho15.size
      replace hP := hP.ext ho15
      replace hA := hA.ext ho15
      replace hE := hE.step ho15 (.inl (Nat.le_refl _))
      refine wp_seq ?_
      refine rg ?_
      refine st (y_lss rfl rfl) ?_
      refine rg_end ?_
      refine n_then ?_
      refine wp_seq ?_
      refine cnd rfl (fun hc1 => ?_) (fun hc1 => ?_)
      ·
        try simp only [decide_eq_true_eq, decide_eq_false_iff_not, Bool.not_eq_true', Bool.not_eq_false', Bool.and_eq_true, Bool.or_eq_true, Bool.or_eq_false_iff, Bool.cond_true_right, Bool.cond_false_right, Bool.cond_true_left, Bool.cond_false_left, ne_eq, Decidable.not_not, bne_iff_ne, beq_iff_eq, beq_eq_false_iff_ne, Bool.not_true, Bool.not_false] at hc1
        refine wp_skip ?_
        refine n_then ?_
        refine wp_seq ?_
        refine wp_block ?_
        refine wp_seq ?_
        refine rg ?_
        refine st (mvI rfl) ?_
        refine st (asI rfl) ?_
        refine rg_end ?_
        refine n_then ?_
        refine wp_seq ?_
        refine rg ?_
        refine st (asI rfl) ?_
        refine rg_end ?_
        refine n_then ?_
        refine wp_block ?_
        refine lp (γ := Nat) [4, 6, 7, 22, 23, 24, 25, 26, 27, 28, 29, 30, 31, 32, 33, 34, 35, 36, 37, 38, 39, 40] (fun u => [(6, .int .i64 (u : Int))]) (fun u w_ => Ext w14 w_ ∧ (u : Int) ≤ t ∧ ∀ q : Nat, q < u → ¬ (0 ≤ secT rows at_ (t : Int) ∧ secT rows at_ (t : Int) = secT rows at_ (q : Int))) (fun u => t - u) 0 ⟨rfl, trivial⟩ ⟨Out.refl _ _ _, by omega, fun q hq => by omega⟩ ?_
        rintro u hav_ w17 ⟨ho18, hu_, hnu⟩
        have hlp1 := ho18
        have hz19 := ho18.size
        replace hP := hP.ext ho18
        replace hA := hA.ext ho18
        replace hE := hE.step ho18 (.inl (Nat.le_refl _))
        replace hlp0 := hlp0.step ho18 (.inl (Nat.le_refl _))
        refine wp_seq ?_
        refine wp_seq ?_
        refine rg ?_
        refine st (mvI rfl) ?_
        refine st (mvI rfl) ?_
        refine st (y_lss rfl rfl) ?_
        refine rg_end ?_
        refine n_then ?_
        refine cnd rfl (fun hc2 => ?_) (fun hc2 => ?_)
        ·
          try simp only [decide_eq_true_eq, decide_eq_false_iff_not, Bool.not_eq_true', Bool.not_eq_false', Bool.and_eq_true, Bool.or_eq_true, Bool.or_eq_false_iff, Bool.cond_true_right, Bool.cond_false_right, Bool.cond_true_left, Bool.cond_false_left, ne_eq, Decidable.not_not, bne_iff_ne, beq_iff_eq, beq_eq_false_iff_ne, Bool.not_true, Bool.not_false] at hc2
          refine wp_skip ?_
          refine n_then ?_
          refine wp_seq ?_
          refine wp_block ?_
          refine wp_seq ?_
          refine rg ?_
          refine st (mvS rfl) ?_
          refine st (mvS rfl) ?_
          refine st (mvI rfl) ?_
          refine sc cl26 (ref35_Section_ok rows _ _ _ _ at_ _ _ _ _ t _ hP hpn hA hg (by omega)) rfl ?_
          rintro v24 w20 ⟨rfl, ho21⟩
          have hz25 := ho21.size
          replace hP := hP.ext ho21
          replace hA := hA.ext ho21
          replace hE := hE.step ho21 (.inl (Nat.le_refl _))
          replace hlp0 := hlp0.step ho21 (.inl (Nat.le_refl _))
          replace hlp1 := hlp1.step ho21 (.inl (Nat.le_refl _))
          refine st (asI rfl) ?_
          refine rg_end ?_
          refine n_then ?_
          refine wp_seq ?_
          refine rg ?_
          refine st (mvI rfl) ?_
          refine st (y_geq rfl rfl) ?_
          refine st (mvB rfl) ?_
          refine gspL 33 rfl (fun hg26 => ?_) (fun hg26 => ?_)
          ·
            have hg26n := hg26; try simp only [decide_eq_true_eq, decide_eq_false_iff_not, Bool.not_eq_true', Bool.not_eq_false', Bool.and_eq_true, Bool.or_eq_true, Bool.or_eq_false_iff, Bool.cond_true_right, Bool.cond_false_right, Bool.cond_true_left, Bool.cond_false_left, ne_eq, Decidable.not_not, bne_iff_ne, beq_iff_eq, beq_eq_false_iff_ne, Bool.not_true, Bool.not_false] at hg26n
            refine stg rfl rfl hg26 (mvI rfl) ?_
            refine stg rfl rfl hg26 (mvS rfl) ?_
            refine stg rfl rfl hg26 (mvS rfl) ?_
            refine stg rfl rfl hg26 (mvI rfl) ?_
            refine scg rfl rfl hg26 cl26 (ref35_Section_ok rows _ _ _ _ at_ _ _ _ _ u _ hP hpn hA hg (by omega)) rfl ?_
            rintro v31 w27 ⟨rfl, ho28⟩
            have hz32 := ho28.size
            replace hP := hP.ext ho28
            replace hA := hA.ext ho28
            replace hE := hE.step ho28 (.inl (Nat.le_refl _))
            replace hlp0 := hlp0.step ho28 (.inl (Nat.le_refl _))
            replace hlp1 := hlp1.step ho28 (.inl (Nat.le_refl _))
            refine stg rfl rfl hg26 (y_eql rfl rfl) ?_
            refine st (y_pickT rfl hg26 (v := .bool _) rfl) ?_
            refine rg_end ?_
            refine n_then ?_
            refine cnd rfl (fun hc3 => ?_) (fun hc3 => ?_)
            ·
              try simp only [decide_eq_true_eq, decide_eq_false_iff_not, Bool.not_eq_true', Bool.not_eq_false', Bool.and_eq_true, Bool.or_eq_true, Bool.or_eq_false_iff, Bool.cond_true_right, Bool.cond_false_right, Bool.cond_true_left, Bool.cond_false_left, ne_eq, Decidable.not_not, bne_iff_ne, beq_iff_eq, beq_eq_false_iff_ne, Bool.not_true, Bool.not_false] at hc3
              have hhel : Hel rows at_ := ⟨t, u, by omega, by omega, by omega, hc3⟩
              refine wp_seq ?_
              refine rg ?_
              refine st (asI rfl) ?_
              refine rg_end ?_
              refine n_then ?_
              refine wp_ret ?_
              refine r_blk (r_then (r_then (r_blk (r_blk (r_then (r_then (r_blk (r_then (ret1 (v := (.int .i64 _)) Try.results15 rfl ?_)))))))))
              exact ⟨17, rfl, ⟨fun h => absurd ⟨hva, hg⟩ h, fun _ _ _ => rfl, fun _ _ h => absurd hhel h⟩, hE⟩
            ·
              try simp only [decide_eq_true_eq, decide_eq_false_iff_not, Bool.not_eq_true', Bool.not_eq_false', Bool.and_eq_true, Bool.or_eq_true, Bool.or_eq_false_iff, Bool.cond_true_right, Bool.cond_false_right, Bool.cond_true_left, Bool.cond_false_left, ne_eq, Decidable.not_not, bne_iff_ne, beq_iff_eq, beq_eq_false_iff_ne, Bool.not_true, Bool.not_false] at hc3
              have hnu1 : ∀ q : Nat, q < u + 1 → ¬ (0 ≤ secT rows at_ (t : Int) ∧ secT rows at_ (t : Int) = secT rows at_ (q : Int)) := fun q hq => by
                by_cases e : q = u
                · subst e; omega
                · exact hnu q (by omega)
              refine wp_skip ?_
              refine n_blk ?_
              refine n_then ?_
              refine rg ?_
              refine st (mvI rfl) ?_
              refine st (y_add rfl rfl (by omega)) ?_
              refine st (asI rfl) ?_
              refine rg_end ?_
              exact n_then ⟨u + 1, _, rfl, same_lk rfl (same_h0), ⟨rfl, trivial⟩, ⟨hlp1, by omega, hnu1⟩, by first | omega | (dsimp only; omega)⟩
          ·
            have hg26n := hg26; try simp only [decide_eq_true_eq, decide_eq_false_iff_not, Bool.not_eq_true', Bool.not_eq_false', Bool.and_eq_true, Bool.or_eq_true, Bool.or_eq_false_iff, Bool.cond_true_right, Bool.cond_false_right, Bool.cond_true_left, Bool.cond_false_left, ne_eq, Decidable.not_not, bne_iff_ne, beq_iff_eq, beq_eq_false_iff_ne, Bool.not_true, Bool.not_false] at hg26n
            refine sts rfl rfl hg26 ?_
            refine sts rfl rfl hg26 ?_
            refine sts rfl rfl hg26 ?_
            refine sts rfl rfl hg26 ?_
            refine sts rfl rfl hg26 ?_
            refine sts rfl rfl hg26 ?_
            refine st (y_pickF rfl hg26 (v := .bool _) rfl) ?_
            refine rg_end ?_
            refine n_then ?_
            refine cnd rfl (fun hc3 => absurd hc3 (by decide)) (fun hc3 => ?_)
            have hnu1 : ∀ q : Nat, q < u + 1 → ¬ (0 ≤ secT rows at_ (t : Int) ∧ secT rows at_ (t : Int) = secT rows at_ (q : Int)) := fun q hq => by
              by_cases e : q = u
              · subst e; omega
              · exact hnu q (by omega)
            refine wp_skip ?_
            refine n_blk ?_
            refine n_then ?_
            refine rg ?_
            refine st (mvI rfl) ?_
            refine st (y_add rfl rfl (by omega)) ?_
            refine st (asI rfl) ?_
            refine rg_end ?_
            exact n_then ⟨u + 1, _, rfl, same_lk rfl (same_h0), ⟨rfl, trivial⟩, ⟨hlp1, by omega, hnu1⟩, by first | omega | (dsimp only; omega)⟩
        ·
          try simp only [decide_eq_true_eq, decide_eq_false_iff_not, Bool.not_eq_true', Bool.not_eq_false', Bool.and_eq_true, Bool.or_eq_true, Bool.or_eq_false_iff, Bool.cond_true_right, Bool.cond_false_right, Bool.cond_true_left, Bool.cond_false_left, ne_eq, Decidable.not_not, bne_iff_ne, beq_iff_eq, beq_eq_false_iff_ne, Bool.not_true, Bool.not_false] at hc2
          have hnt1 : ∀ p : Nat, p < t + 1 → ∀ q : Nat, q < p → ¬ (0 ≤ secT rows at_ (p : Int) ∧ secT rows at_ (p : Int) = secT rows at_ (q : Int)) := fun p hp q hq => by
            by_cases e : p = t
            · subst e; exact hnu q (by omega)
            · exact hnt p (by omega) q hq
          refine wp_exit ?_
          refine e_then (e_then (e_blk (?_)))
          refine n_blk ?_
          refine n_then ?_
          refine rg ?_
          refine st (y_add rfl rfl (by omega)) ?_
          refine st (mvI rfl) ?_
          refine rg_end ?_
          exact n_then ⟨t + 1, _, rfl, same_lk rfl (same_hav rfl (same_lk rfl (same_h0))), ⟨rfl, trivial⟩, ⟨hlp0, by omega, hnt1⟩, by first | omega | (dsimp only; omega)⟩
      ·
        try simp only [decide_eq_true_eq, decide_eq_false_iff_not, Bool.not_eq_true', Bool.not_eq_false', Bool.and_eq_true, Bool.or_eq_true, Bool.or_eq_false_iff, Bool.cond_true_right, Bool.cond_false_right, Bool.cond_true_left, Bool.cond_false_left, ne_eq, Decidable.not_not, bne_iff_ne, beq_iff_eq, beq_eq_false_iff_ne, Bool.not_true, Bool.not_false] at hc1
        have hnh : ¬ Hel rows at_ := fun ⟨p, q, h1, h2, h3, h4⟩ => hnt p (by omega) q h2 ⟨h3, h4⟩
        refine wp_exit ?_
        refine e_then (e_then (e_blk (?_)))
        refine n_then ?_
        refine wp_seq ?_
        refine rg ?_
        refine st (asI rfl) ?_
        refine rg_end ?_
        refine n_then ?_
        refine wp_ret ?_
        refine ret1 (v := (.int .i64 _)) Try.results15 rfl ?_
        exact ⟨0, rfl, ⟨fun h => absurd ⟨hva, hg⟩ h, fun _ _ h => absurd h hnh, fun _ _ _ => rfl⟩, hE⟩
end Go.Proofs.Yteicgnmggkhlbaa
