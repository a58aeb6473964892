/-
  Walks of the functions, printed by a program out of the code and the loops' relations.
-/
import Derived.Test.YtdbiapbdmmkfjaaWkG
import Derived.Test.YtdbiapbdmmkfjaaProg
import Derived.KernelRfl
import Derived.Test.YtdbiapbdmmkfjaaG8
namespace Go.Proofs.Ytdbiapbdmmkfjaa
open Go.Wk Go.RowKit
set_option linter.unusedVariables false
set_option linter.unusedSimpArgs false
theorem cl47 : Callable Try.prog 47 := ⟨Try.call47⟩
theorem cl54 : Callable Try.prog 54 := ⟨Try.call54⟩
theorem cl67 : Callable Try.prog 67 := ⟨Try.call67⟩
theorem cl68 : Callable Try.prog 68 := ⟨Try.call68⟩

def moD (N : Net) (tree t : List Int) (out into : Int) : Int := if el (cutL N tree out) (el N.acts into).tt = true then -(durA N t (el N.acts into) - (el N.acts into).mn) else durA N t (el N.acts into) - (el N.acts into).mn
def moT (N : Net) (tree t : List Int) (out into : Int) : List Int := (List.range t.length).map fun (i : Nat) => if el (cutL N tree out) (i : Int) = true then (el t (i : Int) + moD N tree t out into) % N.p else el t (i : Int)
structure MvOk (N : Net) (tree t : List Int) (out into : Int) : Prop where
  fo : FoOk N tree
  fe : feas N t = true
  hm : out ∈ tree
  hi : 0 ≤ into ∧ into < N.acts.length
  hn : into ≠ out
  hc : el (cutL N tree out) (el N.acts into).fr ≠ el (cutL N tree out) (el N.acts into).tt
  ft : feas N (moT N tree t out into) = true
theorem moT_el {N : Net} {tree t : List Int} {out into : Int} {i : Nat} (h : i < t.length) : el (moT N tree t out into) (i : Int) = if el (cutL N tree out) (i : Int) = true then (el t (i : Int) + moD N tree t out into) % N.p else el t (i : Int) := by
  simp [moT, el, h]
theorem moT_len {N : Net} {tree t : List Int} {out into : Int} : (moT N tree t out into).length = t.length := by simp [moT]

theorem owTight {α : Type} {E : TypeId} {enc : α → List Value} {sz lo hi z hi' : Nat} {w : World} {ad : Option Addr} {c : Nat} {l : List α} (h : Ow E enc sz lo hi w ad c l) (hz : z = blk ad) (hh : hi ≤ hi') : Ow E enc sz z hi' w ad c l := by
  refine ⟨⟨h.owns.1, ?_⟩, h.len, Nat.le_trans h.top hh⟩
  rcases h.owns.2 with k | ⟨g, cap, cur, h1, h2, h3⟩
  · exact .inl k
  · refine .inr ⟨g, cap, cur, h1, ?_, h3⟩
    simp at h1
    rw [hz, h1.1]; exact Nat.le_refl _

set_option maxHeartbeats 4000000 in
set_option maxRecDepth 100000 in
theorem ref13_Move_ok (N : Net) (A : NetA) (lo hi : Nat) (tree : List Int) (ar : Option Addr) (cr lr hr_ : Nat) (t : List Int) (at_ : Option Addr) (ct : Nat) (lt ht : Nat) (out into : Int) (w : World) (hN : NetIn lo hi w N A) (hTr : Ints lr hr_ w ar tree) (htn : (tree.length : Int) ≤ 9223372036854775807) (hT : Ints lt ht w at_ t) (hio : 0 ≤ into) : Cal Try.prog 56 [netV N A, .slice ar tree.length cr, .slice at_ t.length ct, .int .i64 out, .int .i64 into] w (fun v w' => ∃ af cf f a1 c1 T e, v = .tuple #[.slice af f.length cf, .slice a1 T.length c1, .int .i64 e] ∧ Ints w.heap.size w'.heap.size w' af f ∧ Ints w.heap.size w'.heap.size w' a1 T ∧ ((f.length : Nat) : Int) ≤ 512 ∧ (e = 0 ↔ MvOk N tree t out into) ∧ (e = 0 → feas N T = true) ∧ Ext w w') := by
  replace hN := hN.full
  replace hTr := Ints.full hTr
  replace hT := Ints.full hT
  have hE : Out 0 0 w w := Out.refl _ _ w
  refine enter Try.func56 rfl Try.ntmps56 rfl ?_
  refine wp_seq ?_
  refine rg ?_
  refine sd (d_boxA rfl ?_)
  intro b5 w1 hbb5 hs3 ho2 hb5
  have hz4 := ho2.size
  replace hN := hN.ext ho2
  replace hTr := hTr.ext ho2
  replace hT := hT.ext ho2
  replace hE := hE.step ho2 (.inl (Nat.le_refl _))
  refine st (asS rfl) ?_
  refine st (asS rfl) ?_
  refine st (asI rfl) ?_
  refine rg_end ?_
  refine n_then ?_
  refine wp_seq ?_
  refine wp_seq ?_
  refine rg ?_
  refine st (y_lbN hb5 agg26 rfl) ?_
  refine st (mvS rfl) ?_
  refine sc cl47 (ref11_Forest_ok N A _ _ tree _ _ _ _ _ hN hTr htn) rfl ?_
  rintro v9 w5 ⟨b, rfl, hb, ho6⟩
  have hz10 := ho6.size
  replace hN := hN.ext ho6
  replace hTr := hTr.ext ho6
  replace hT := hT.ext ho6
  replace hE := hE.step ho6 (.inl (Nat.le_refl _))
  replace hb5 := hb5.ext ho6
  refine st (y_not rfl) ?_
  refine st (mvB rfl) ?_
  refine gspL 24 rfl (fun hg11 => ?_) (fun hg11 => ?_)
  ·
    have hg11n := hg11; try simp only [decide_eq_true_eq, decide_eq_false_iff_not, Bool.not_eq_true', Bool.not_eq_false', Bool.and_eq_true, Bool.or_eq_true, Bool.or_eq_false_iff, Bool.cond_true_right, Bool.cond_false_right, Bool.cond_true_left, Bool.cond_false_left, ne_eq, Decidable.not_not, bne_iff_ne, beq_iff_eq, beq_eq_false_iff_ne, Bool.not_true, Bool.not_false] at hg11n
    refine sts rfl rfl hg11 ?_
    refine sts rfl rfl hg11 ?_
    refine sts rfl rfl hg11 ?_
    refine sts rfl rfl hg11 ?_
    refine st (y_pickT rfl hg11 (v := .bool _) rfl) ?_
    refine rg_end ?_
    refine n_then ?_
    refine cnd rfl (fun hc0 => ?_) (fun hc0 => absurd hc0 (by decide))
    have hno : ¬ MvOk N tree t out into := fun h => by
      have h1 := hb.2 h.fo
      have h2 := h.fe
      first
      | (rw [show b = false by assumption] at h1; cases h1)
      | (rw [show feas N t = false by assumption] at h2; cases h2)
    refine wp_seq ?_
    refine rg ?_
    refine st (asS rfl) ?_
    refine st (asS rfl) ?_
    refine st (asI rfl) ?_
    refine rg_end ?_
    refine n_then ?_
    refine wp_ret ?_
    refine r_then (ret3 (v := (.slice _ _ _)) (v' := (.slice _ _ _)) (v'' := (.int .i64 _)) Try.results56 rfl rfl rfl ?_)
    exact ⟨none, 0, [], none, 0, [], 1, rfl, ⟨fun h => absurd rfl h, fun i x hx => by simp at hx⟩, ⟨fun h => absurd rfl h, fun i x hx => by simp at hx⟩, by simp, ⟨fun h => (by omega), fun h => absurd h hno⟩, fun h => (by omega), hE⟩
  ·
    have hg11n := hg11; try simp only [decide_eq_true_eq, decide_eq_false_iff_not, Bool.not_eq_true', Bool.not_eq_false', Bool.and_eq_true, Bool.or_eq_true, Bool.or_eq_false_iff, Bool.cond_true_right, Bool.cond_false_right, Bool.cond_true_left, Bool.cond_false_left, ne_eq, Decidable.not_not, bne_iff_ne, beq_iff_eq, beq_eq_false_iff_ne, Bool.not_true, Bool.not_false] at hg11n
    refine stg rfl rfl hg11 (y_lbN hb5 agg26 rfl) ?_
    refine stg rfl rfl hg11 (mvS rfl) ?_
    refine scg rfl rfl hg11 cl25 (ref11_Feasible_ok N A _ _ t _ _ _ _ _ hN hT) rfl ?_
    rintro v16 w12 ⟨rfl, ho13⟩
    have hz17 := ho13.size
    replace hN := hN.ext ho13
    replace hTr := hTr.ext ho13
    replace hT := hT.ext ho13
    replace hE := hE.step ho13 (.inl (Nat.le_refl _))
    replace hb5 := hb5.ext ho13
    refine stg rfl rfl hg11 (y_not rfl) ?_
    refine st (y_pickF rfl hg11 (v := .bool _) rfl) ?_
    refine rg_end ?_
    refine n_then ?_
    refine cnd rfl (fun hc0 => ?_) (fun hc0 => ?_)
    ·
      try simp only [decide_eq_true_eq, decide_eq_false_iff_not, Bool.not_eq_true', Bool.not_eq_false', Bool.and_eq_true, Bool.or_eq_true, Bool.or_eq_false_iff, Bool.cond_true_right, Bool.cond_false_right, Bool.cond_true_left, Bool.cond_false_left, ne_eq, Decidable.not_not, bne_iff_ne, beq_iff_eq, beq_eq_false_iff_ne, Bool.not_true, Bool.not_false] at hc0
      have hno : ¬ MvOk N tree t out into := fun h => by
        have h1 := hb.2 h.fo
        have h2 := h.fe
        first
        | (rw [show b = false by assumption] at h1; cases h1)
        | (rw [show feas N t = false by assumption] at h2; cases h2)
      refine wp_seq ?_
      refine rg ?_
      refine st (asS rfl) ?_
      refine st (asS rfl) ?_
      refine st (asI rfl) ?_
      refine rg_end ?_
      refine n_then ?_
      refine wp_ret ?_
      refine r_then (ret3 (v := (.slice _ _ _)) (v' := (.slice _ _ _)) (v'' := (.int .i64 _)) Try.results56 rfl rfl rfl ?_)
      exact ⟨none, 0, [], none, 0, [], 1, rfl, ⟨fun h => absurd rfl h, fun i x hx => by simp at hx⟩, ⟨fun h => absurd rfl h, fun i x hx => by simp at hx⟩, by simp, ⟨fun h => (by omega), fun h => absurd h hno⟩, fun h => (by omega), hE⟩
    ·
      try simp only [decide_eq_true_eq, decide_eq_false_iff_not, Bool.not_eq_true', Bool.not_eq_false', Bool.and_eq_true, Bool.or_eq_true, Bool.or_eq_false_iff, Bool.cond_true_right, Bool.cond_false_right, Bool.cond_true_left, Bool.cond_false_left, ne_eq, Decidable.not_not, bne_iff_ne, beq_iff_eq, beq_eq_false_iff_ne, Bool.not_true, Bool.not_false] at hc0
      have hbt : b = true := by assumption
      have hfo := hb.1 hbt
      have hok := hfo.ok
      have hac := hok.ac
      have hev := hok.ev
      have hp2 := hok.p2
      have hp7 := hok.p7
      have hg := (feas_iff.1 hc0).1
      have htl := hg.len
      have hmem := hfo.mem
      refine wp_skip ?_
      refine n_then ?_
      refine wp_seq ?_
      refine wp_seq ?_
      refine rg ?_
      refine st (mvS rfl) ?_
      refine st (mvI rfl) ?_
      refine sc cl67 (ref13_has_ok tree _ _ _ _ out _ hTr htn) rfl ?_
      rintro v22 w18 ⟨rfl, ho19⟩
      have hz23 := ho19.size
      replace hN := hN.ext ho19
      replace hTr := hTr.ext ho19
      replace hT := hT.ext ho19
      replace hE := hE.step ho19 (.inl (Nat.le_refl _))
      replace hb5 := hb5.ext ho19
      refine st (y_not rfl) ?_
      refine st (mvB rfl) ?_
      refine gspL 34 rfl (fun hg24 => ?_) (fun hg24 => ?_)
      ·
        have hg24n := hg24; try simp only [decide_eq_true_eq, decide_eq_false_iff_not, Bool.not_eq_true', Bool.not_eq_false', Bool.and_eq_true, Bool.or_eq_true, Bool.or_eq_false_iff, Bool.cond_true_right, Bool.cond_false_right, Bool.cond_true_left, Bool.cond_false_left, ne_eq, Decidable.not_not, bne_iff_ne, beq_iff_eq, beq_eq_false_iff_ne, Bool.not_true, Bool.not_false] at hg24n
        refine sts rfl rfl hg24 ?_
        refine sts rfl rfl hg24 ?_
        refine sts rfl rfl hg24 ?_
        refine sts rfl rfl hg24 ?_
        refine sts rfl rfl hg24 ?_
        refine sts rfl rfl hg24 ?_
        refine sts rfl rfl hg24 ?_
        refine st (y_pickT rfl hg24 (v := .bool _) rfl) ?_
        refine st (mvB rfl) ?_
        refine sts rfl rfl rfl ?_
        refine sts rfl rfl rfl ?_
        refine sts rfl rfl rfl ?_
        refine st (y_pickT rfl rfl (v := .bool _) rfl) ?_
        refine rg_end ?_
        refine n_then ?_
        refine cnd rfl (fun hc1 => ?_) (fun hc1 => absurd hc1 (by decide))
        have hno : ¬ MvOk N tree t out into := fun h => by
          have h1 := h.hm
          have h2 := h.hi
          have h3 := h.hn
          first
          | exact absurd h1 (by assumption)
          | omega
        refine wp_seq ?_
        refine rg ?_
        refine st (asS rfl) ?_
        refine st (asS rfl) ?_
        refine st (asI rfl) ?_
        refine rg_end ?_
        refine n_then ?_
        refine wp_ret ?_
        refine r_then (ret3 (v := (.slice _ _ _)) (v' := (.slice _ _ _)) (v'' := (.int .i64 _)) Try.results56 rfl rfl rfl ?_)
        exact ⟨none, 0, [], none, 0, [], 4, rfl, ⟨fun h => absurd rfl h, fun i x hx => by simp at hx⟩, ⟨fun h => absurd rfl h, fun i x hx => by simp at hx⟩, by simp, ⟨fun h => (by omega), fun h => absurd h hno⟩, fun h => (by omega), hE⟩
      ·
        have hg24n := hg24; try simp only [decide_eq_true_eq, decide_eq_false_iff_not, Bool.not_eq_true', Bool.not_eq_false', Bool.and_eq_true, Bool.or_eq_true, Bool.or_eq_false_iff, Bool.cond_true_right, Bool.cond_false_right, Bool.cond_true_left, Bool.cond_false_left, ne_eq, Decidable.not_not, bne_iff_ne, beq_iff_eq, beq_eq_false_iff_ne, Bool.not_true, Bool.not_false] at hg24n
        refine stg rfl rfl hg24 (mvI rfl) ?_
        refine stg rfl rfl hg24 (y_fld fld26_2 rfl) ?_
        refine stg rfl rfl hg24 (y_lb hb5 na24 rfl rfl) ?_
        refine stg rfl rfl hg24 (y_len Try.underlying24 rfl) ?_
        refine stg rfl rfl hg24 (y_sub rfl rfl (by omega)) ?_
        refine scg rfl rfl hg24 cl54 (ref13_in_ok _ _ _ _) rfl ?_
        rintro v29 w25 ⟨rfl, ho26⟩
        have hz30 := ho26.size
        replace hN := hN.ext ho26
        replace hTr := hTr.ext ho26
        replace hT := hT.ext ho26
        replace hE := hE.step ho26 (.inl (Nat.le_refl _))
        replace hb5 := hb5.ext ho26
        refine stg rfl rfl hg24 (y_not rfl) ?_
        refine st (y_pickF rfl hg24 (v := .bool _) rfl) ?_
        refine st (mvB rfl) ?_
        refine gspL 43 rfl (fun hg31 => ?_) (fun hg31 => ?_)
        ·
          have hg31n := hg31; try simp only [decide_eq_true_eq, decide_eq_false_iff_not, Bool.not_eq_true', Bool.not_eq_false', Bool.and_eq_true, Bool.or_eq_true, Bool.or_eq_false_iff, Bool.cond_true_right, Bool.cond_false_right, Bool.cond_true_left, Bool.cond_false_left, ne_eq, Decidable.not_not, bne_iff_ne, beq_iff_eq, beq_eq_false_iff_ne, Bool.not_true, Bool.not_false] at hg31n
          refine sts rfl rfl hg31 ?_
          refine sts rfl rfl hg31 ?_
          refine sts rfl rfl hg31 ?_
          refine st (y_pickT rfl hg31 (v := .bool _) rfl) ?_
          refine rg_end ?_
          refine n_then ?_
          refine cnd rfl (fun hc1 => ?_) (fun hc1 => absurd hc1 (by decide))
          have hno : ¬ MvOk N tree t out into := fun h => by
            have h1 := h.hm
            have h2 := h.hi
            have h3 := h.hn
            first
            | exact absurd h1 (by assumption)
            | omega
          refine wp_seq ?_
          refine rg ?_
          refine st (asS rfl) ?_
          refine st (asS rfl) ?_
          refine st (asI rfl) ?_
          refine rg_end ?_
          refine n_then ?_
          refine wp_ret ?_
          refine r_then (ret3 (v := (.slice _ _ _)) (v' := (.slice _ _ _)) (v'' := (.int .i64 _)) Try.results56 rfl rfl rfl ?_)
          exact ⟨none, 0, [], none, 0, [], 4, rfl, ⟨fun h => absurd rfl h, fun i x hx => by simp at hx⟩, ⟨fun h => absurd rfl h, fun i x hx => by simp at hx⟩, by simp, ⟨fun h => (by omega), fun h => absurd h hno⟩, fun h => (by omega), hE⟩
        ·
          have hg31n := hg31; try simp only [decide_eq_true_eq, decide_eq_false_iff_not, Bool.not_eq_true', Bool.not_eq_false', Bool.and_eq_true, Bool.or_eq_true, Bool.or_eq_false_iff, Bool.cond_true_right, Bool.cond_false_right, Bool.cond_true_left, Bool.cond_false_left, ne_eq, Decidable.not_not, bne_iff_ne, beq_iff_eq, beq_eq_false_iff_ne, Bool.not_true, Bool.not_false] at hg31n
          refine stg rfl rfl hg31 (mvI rfl) ?_
          refine stg rfl rfl hg31 (mvI rfl) ?_
          refine stg rfl rfl hg31 (y_eql rfl rfl) ?_
          refine st (y_pickF rfl hg31 (v := .bool _) rfl) ?_
          refine rg_end ?_
          refine n_then ?_
          refine cnd rfl (fun hc1 => ?_) (fun hc1 => ?_)
          ·
            try simp only [decide_eq_true_eq, decide_eq_false_iff_not, Bool.not_eq_true', Bool.not_eq_false', Bool.and_eq_true, Bool.or_eq_true, Bool.or_eq_false_iff, Bool.cond_true_right, Bool.cond_false_right, Bool.cond_true_left, Bool.cond_false_left, ne_eq, Decidable.not_not, bne_iff_ne, beq_iff_eq, beq_eq_false_iff_ne, Bool.not_true, Bool.not_false] at hc1
            have hno : ¬ MvOk N tree t out into := fun h => by
              have h1 := h.hm
              have h2 := h.hi
              have h3 := h.hn
              first
              | exact absurd h1 (by assumption)
              | omega
            refine wp_seq ?_
            refine rg ?_
            refine st (asS rfl) ?_
            refine st (asS rfl) ?_
            refine st (asI rfl) ?_
            refine rg_end ?_
            refine n_then ?_
            refine wp_ret ?_
            refine r_then (ret3 (v := (.slice _ _ _)) (v' := (.slice _ _ _)) (v'' := (.int .i64 _)) Try.results56 rfl rfl rfl ?_)
            exact ⟨none, 0, [], none, 0, [], 4, rfl, ⟨fun h => absurd rfl h, fun i x hx => by simp at hx⟩, ⟨fun h => absurd rfl h, fun i x hx => by simp at hx⟩, by simp, ⟨fun h => (by omega), fun h => absurd h hno⟩, fun h => (by omega), hE⟩
          ·
            try simp only [decide_eq_true_eq, decide_eq_false_iff_not, Bool.not_eq_true', Bool.not_eq_false', Bool.and_eq_true, Bool.or_eq_true, Bool.or_eq_false_iff, Bool.cond_true_right, Bool.cond_false_right, Bool.cond_true_left, Bool.cond_false_left, ne_eq, Decidable.not_not, bne_iff_ne, beq_iff_eq, beq_eq_false_iff_ne, Bool.not_true, Bool.not_false] at hc1
            have hmm : out ∈ tree := by assumption
            have hir : 0 ≤ into ∧ into < N.acts.length := by omega
            have hio2 : into ≠ out := by omega
            have hor := hmem out hmm
            have ha := hok.acs _ (el_mem hir.1 hir.2)
            have b1 := hg.rng _ (el_mem (l := t) ha.t0 (by rw [hg.len]; exact ha.t1))
            have b2 := hg.rng _ (el_mem (l := t) ha.f0 (by rw [hg.len]; exact ha.f1))
            have u1 := Int.emod_nonneg (el t (el N.acts into).tt - el t (el N.acts into).fr - (el N.acts into).mn) (b := N.p) (by omega)
            have u2 := Int.emod_lt_of_pos (el t (el N.acts into).tt - el t (el N.acts into).fr - (el N.acts into).mn) (b := N.p) (by omega)
            have hdu : durA N t (el N.acts into) = (el N.acts into).mn + (el t (el N.acts into).tt - el t (el N.acts into).fr - (el N.acts into).mn) % N.p := rfl
            have hmn0 := ha.m0
            have hmn1 := ha.m1
            have hmn2 := ha.m2
            refine wp_skip ?_
            refine n_then ?_
            refine wp_seq ?_
            refine rg ?_
            refine st (y_lbN hb5 agg26 rfl) ?_
            refine st (mvS rfl) ?_
            refine st (mvI rfl) ?_
            refine sc cl68 (ref13_cut_ok N A _ _ tree _ _ _ _ out _ hN hTr htn hok hmem hor.1 hor.2) rfl ?_
            rintro v36 w32 ⟨am, cm, rfl, hm, hml, ho33⟩
            have hz37 := ho33.size
            replace hN := hN.ext ho33
            replace hTr := hTr.ext ho33
            replace hT := hT.ext ho33
            replace hE := hE.step ho33 (.inl (Nat.le_refl _))
            replace hb5 := hb5.ext ho33
            refine st (asS rfl) ?_
            refine rg_end ?_
            refine n_then ?_
            refine wp_seq ?_
            refine rg ?_
            refine st (y_fld fld26_2 rfl) ?_
            refine st (y_lb hb5 na24 rfl rfl) ?_
            refine st (mvI rfl) ?_
            refine st (y_ix hN.a sl24 rfl (rfl) rfl (by omega) (by omega)) ?_
            refine st (y_lw hN.a agg62 rfl (by omega) (by omega)) ?_
            refine sd (d_allocA zer62 ?_)
            intro b14 w38 hbb14 hs40 ho39 hb14
            have hz41 := ho39.size
            replace hN := hN.ext ho39
            replace hTr := hTr.ext ho39
            replace hT := hT.ext ho39
            replace hE := hE.step ho39 (.inl (Nat.le_refl _))
            replace hb5 := hb5.ext ho39
            replace hm := hm.ext ho39
            refine sd0 (d_stN hb14 rfl rfl sz62 rfl rfl ?_)
            intro w42 hs44 ho43 hb14'
            clear hb14; have hb14 := hb14'; clear hb14'
            have hz45 := ho43.size
            replace hN := hN.out ho43 (by first | omega | (simp only [blk_some, hi1_some] at *; omega))
            replace hTr := hTr.out ho43 (by first | omega | (simp only [blk_some, hi1_some] at *; omega))
            replace hT := hT.out ho43 (by first | omega | (simp only [blk_some, hi1_some] at *; omega))
            replace hE := hE.step ho43 (by first | omega | (simp only [blk_some, hi1_some] at *; omega))
            replace hb5 := hb5.out ho43 (by first | omega | (simp only [blk_some, hi1_some] at *; omega))
            replace hm := hm.out ho43 (by first | omega | (simp only [blk_some, hi1_some] at *; omega))
            refine rg_end ?_
            refine n_then ?_
            refine wp_seq ?_
            refine wp_seq ?_
            refine rgD 10 (fun w_ => Ext w42 w_) (fun i => false) mixed (by kernel_rfl) ?_
            intro w46 ho47 hs48
            refine ⟨ho47, ?_⟩
            have hx49 := ho47
            refine tn rfl (fun _ hG => mvS rfl) ?_
            refine tn rfl (fun _ hG => y_fld fld62_1 rfl) ?_
            refine tn rfl (fun _ hG => y_lb (hb14.ext hG) na3 rfl rfl) ?_
            refine tn rfl (fun _ hG => y_ix (hm.ext hG) sl68 rfl (hml.symm) rfl (ha.f0) (by have := ha.f1; omega)) ?_
            refine tn rfl (fun _ hG => y_le (hm.ext hG) na4 rfl (ha.f0) (by have := ha.f1; omega) rfl) ?_
            refine tn rfl (fun _ hG => mvS rfl) ?_
            refine tn rfl (fun _ hG => y_fld fld62_2 rfl) ?_
            refine tn rfl (fun _ hG => y_lb (hb14.ext hG) na3 rfl rfl) ?_
            refine tn rfl (fun _ hG => y_ix (hm.ext hG) sl68 rfl (hml.symm) rfl (ha.t0) (by have := ha.t1; omega)) ?_
            refine tn rfl (fun _ hG => y_le (hm.ext hG) na4 rfl (ha.t0) (by have := ha.t1; omega) rfl) ?_
            refine t_end ?_
            have hz50 := hx49.size
            replace hN := hN.ext hx49
            replace hTr := hTr.ext hx49
            replace hT := hT.ext hx49
            replace hE := hE.step hx49 (.inl (Nat.le_refl _))
            replace hb5 := hb5.ext hx49
            replace hm := hm.ext hx49
            replace hb14 := hb14.ext hx49
            refine st (y_eqlB rfl rfl Try.underlying4) ?_
            refine rg_end ?_
            refine n_then ?_
            refine cnd rfl (fun hc2 => ?_) (fun hc2 => ?_)
            ·
              try simp only [decide_eq_true_eq, decide_eq_false_iff_not, Bool.not_eq_true', Bool.not_eq_false', Bool.and_eq_true, Bool.or_eq_true, Bool.or_eq_false_iff, Bool.cond_true_right, Bool.cond_false_right, Bool.cond_true_left, Bool.cond_false_left, ne_eq, Decidable.not_not, bne_iff_ne, beq_iff_eq, beq_eq_false_iff_ne, Bool.not_true, Bool.not_false] at hc2
              have hno : ¬ MvOk N tree t out into := fun h => h.hc hc2
              refine wp_seq ?_
              refine rg ?_
              refine st (asS rfl) ?_
              refine st (asS rfl) ?_
              refine st (asI rfl) ?_
              refine rg_end ?_
              refine n_then ?_
              refine wp_ret ?_
              refine r_then (ret3 (v := (.slice _ _ _)) (v' := (.slice _ _ _)) (v'' := (.int .i64 _)) Try.results56 rfl rfl rfl ?_)
              exact ⟨none, 0, [], none, 0, [], 4, rfl, ⟨fun h => absurd rfl h, fun i x hx => by simp at hx⟩, ⟨fun h => absurd rfl h, fun i x hx => by simp at hx⟩, by simp, ⟨fun h => (by omega), fun h => absurd h hno⟩, fun h => (by omega), hE⟩
            ·
              try simp only [decide_eq_true_eq, decide_eq_false_iff_not, Bool.not_eq_true', Bool.not_eq_false', Bool.and_eq_true, Bool.or_eq_true, Bool.or_eq_false_iff, Bool.cond_true_right, Bool.cond_false_right, Bool.cond_true_left, Bool.cond_false_left, ne_eq, Decidable.not_not, bne_iff_ne, beq_iff_eq, beq_eq_false_iff_ne, Bool.not_true, Bool.not_false] at hc2
              refine wp_skip ?_
              refine n_then ?_
              refine wp_seq ?_
              refine rgD 6 (fun w_ => Ext w46 w_) (fun i => Nat.beq i 3) mixed (by kernel_rfl) ?_
              intro w51 ho52 hs53
              refine ⟨ho52, ?_⟩
              have hx54 := ho52
              refine tn rfl (fun _ hG => y_lbN (hb5.ext hG) agg26 rfl) ?_
              refine tn rfl (fun _ hG => mvS rfl) ?_
              refine tn rfl (fun _ hG => y_lbN (hb14.ext hG) agg62 rfl) ?_
              refine tc rfl cl44 (ref11_Lasts_ok N A _ _ t _ _ _ _ (el N.acts into) _ (hN.ext hx54) (hT.ext hx54) hg ha) rfl ?_
              rintro v59 w55 ⟨rfl, ho56⟩
              have hx60 := hx54.step ho56 (.inl (Nat.le_refl _))
              have hz61 := ho56.size
              refine ⟨hx60, ?_⟩
              refine tn rfl (fun _ hG => y_fld fld62_3 rfl) ?_
              refine tn rfl (fun _ hG => y_lb (hb14.ext hG) na3 rfl rfl) ?_
              refine t_end ?_
              have hz62 := hx60.size
              replace hN := hN.ext hx60
              replace hTr := hTr.ext hx60
              replace hT := hT.ext hx60
              replace hE := hE.step hx60 (.inl (Nat.le_refl _))
              replace hb5 := hb5.ext hx60
              replace hm := hm.ext hx60
              replace hb14 := hb14.ext hx60
              refine st (y_sub rfl rfl (by omega)) ?_
              refine st (asI rfl) ?_
              refine rg_end ?_
              refine n_then ?_
              refine wp_seq ?_
              refine wp_seq ?_
              refine rg ?_
              refine st (mvS rfl) ?_
              refine st (y_fld fld62_2 rfl) ?_
              refine st (y_lb hb14 na3 rfl rfl) ?_
              refine st (y_ix hm sl68 rfl (hml.symm) rfl (ha.t0) (by have := ha.t1; omega)) ?_
              refine st (y_le hm na4 rfl (ha.t0) (by have := ha.t1; omega) rfl) ?_
              refine rg_end ?_
              refine n_then ?_
              refine cnd rfl (fun hc3 => ?_) (fun hc3 => ?_)
              ·
                try simp only [decide_eq_true_eq, decide_eq_false_iff_not, Bool.not_eq_true', Bool.not_eq_false', Bool.and_eq_true, Bool.or_eq_true, Bool.or_eq_false_iff, Bool.cond_true_right, Bool.cond_false_right, Bool.cond_true_left, Bool.cond_false_left, ne_eq, Decidable.not_not, bne_iff_ne, beq_iff_eq, beq_eq_false_iff_ne, Bool.not_true, Bool.not_false] at hc3
                have hdd : moD N tree t out into = -(durA N t (el N.acts into) - (el N.acts into).mn) := if_pos hc3
                refine rg ?_
                refine st (mvI rfl) ?_
                refine st (y_neg rfl (by omega)) ?_
                refine st (asI rfl) ?_
                refine rg_end ?_
                refine n_then ?_
                refine wp_seq ?_
                refine rg ?_
                refine st (mvS rfl) ?_
                obtain ⟨zc_, hzc_⟩ : ∃ z, z = w55.heap.size := ⟨_, rfl⟩
                have hC := Ow.nil (E := 3) (sz := 1) (enc := encI) (lo := zc_) (hi := 0) (w := w55) (fun _ => rfl)
                have hrhC := hC.rng
                refine sd (d_appN (xs := t) hC sl22 infoz3 (by decide) rfl rfl rfl (rfl) (hT) (fun _ => rfl) (by simp; unfold maxLen; omega) (by simp; omega) (by omega) (by omega) ?_)
                intro a16 c16 w63 ho64 hC'
                have hs65 := ho64.size
                clear hC; have hC := hC'; clear hC'
                have hz68 := ho64.size
                replace hN := hN.out ho64 (by first | omega | (simp only [blk_some, hi1_some] at *; omega))
                replace hTr := hTr.out ho64 (by first | omega | (simp only [blk_some, hi1_some] at *; omega))
                replace hT := hT.out ho64 (by first | omega | (simp only [blk_some, hi1_some] at *; omega))
                replace hE := hE.step ho64 (by first | omega | (simp only [blk_some, hi1_some] at *; omega))
                replace hb5 := hb5.out ho64 (by first | omega | (simp only [blk_some, hi1_some] at *; omega))
                replace hm := hm.out ho64 (by first | omega | (simp only [blk_some, hi1_some] at *; omega))
                replace hb14 := hb14.out ho64 (by first | omega | (simp only [blk_some, hi1_some] at *; omega))
                simp only [List.nil_append] at hC ⊢
                have hCr := hC.rng
                obtain ⟨z6, hz6⟩ : ∃ z, z = w63.heap.size := ⟨_, rfl⟩
                refine st (asS rfl) ?_
                refine rg_end ?_
                refine n_then ?_
                refine wp_seq ?_
                refine wp_seq ?_
                refine rg ?_
                refine st (mvS rfl) ?_
                refine st (y_len Try.underlying22 rfl) ?_
                refine st (mvI rfl) ?_
                refine rg_end ?_
                refine n_then ?_
                refine wp_block ?_
                refine lp (γ := Nat × List Int) [17, 86, 87, 88, 89, 90, 91, 92, 93, 94, 95, 96, 97, 98, 99, 100, 101, 102, 103, 104, 105] (fun ⟨k, T⟩ => [(86, .int .i64 (k : Int))]) (fun ⟨k, T⟩ w_ => Out (blk a16) (hi1 a16) w63 w_ ∧ (k : Int) ≤ t.length ∧ T.length = t.length ∧ (∀ q : Nat, q < k → el T (q : Int) = if el (cutL N tree out) (q : Int) = true then (el t (q : Int) + moD N tree t out into) % N.p else el t (q : Int)) ∧ (∀ q : Nat, k ≤ q → q < t.length → el T (q : Int) = el t (q : Int)) ∧ Ow 3 encI 1 zc_ z6 w_ a16 c16 T) (fun ⟨k, T⟩ => t.length - k) (0, t) ⟨rfl, trivial⟩ ⟨Out.refl _ _ _, by omega, rfl, (fun q hq => by omega), (fun q _ _ => rfl), hC.wide (by omega)⟩ ?_
                rintro ⟨k, T⟩ hav_ w69 ⟨ho70, hk_, hTl, hlt, hge, hC⟩
                have hlp0 := ho70
                have hz71 := ho70.size
                replace hN := hN.out ho70 (by first | omega | (simp only [blk_some, hi1_some] at *; omega))
                replace hTr := hTr.out ho70 (by first | omega | (simp only [blk_some, hi1_some] at *; omega))
                replace hT := hT.out ho70 (by first | omega | (simp only [blk_some, hi1_some] at *; omega))
                replace hE := hE.step ho70 (by first | omega | (simp only [blk_some, hi1_some] at *; omega))
                replace hb5 := hb5.out ho70 (by first | omega | (simp only [blk_some, hi1_some] at *; omega))
                replace hm := hm.out ho70 (by first | omega | (simp only [blk_some, hi1_some] at *; omega))
                replace hb14 := hb14.out ho70 (by first | omega | (simp only [blk_some, hi1_some] at *; omega))
                refine wp_seq ?_
                refine rg ?_
                refine st (y_lss rfl rfl) ?_
                refine rg_end ?_
                refine n_then ?_
                refine wp_seq ?_
                refine cnd rfl (fun hc4 => ?_) (fun hc4 => ?_)
                ·
                  try simp only [decide_eq_true_eq, decide_eq_false_iff_not, Bool.not_eq_true', Bool.not_eq_false', Bool.and_eq_true, Bool.or_eq_true, Bool.or_eq_false_iff, Bool.cond_true_right, Bool.cond_false_right, Bool.cond_true_left, Bool.cond_false_left, ne_eq, Decidable.not_not, bne_iff_ne, beq_iff_eq, beq_eq_false_iff_ne, Bool.not_true, Bool.not_false] at hc4
                  have hk2 := hge k (Nat.le_refl _) (by omega)
                  have b3 := hg.rng _ (el_mem (l := t) (i := (k : Int)) (by omega) (by omega))
                  refine wp_skip ?_
                  refine n_then ?_
                  refine wp_seq ?_
                  refine wp_block ?_
                  refine wp_seq ?_
                  refine rg ?_
                  refine st (mvI rfl) ?_
                  refine st (asI rfl) ?_
                  refine rg_end ?_
                  refine n_then ?_
                  refine wp_seq ?_
                  refine rg ?_
                  refine st (mvS rfl) ?_
                  refine st (mvI rfl) ?_
                  refine st (y_ix hm sl68 rfl (hml.symm) rfl (by omega) (by omega)) ?_
                  refine st (y_le hm na4 rfl (by omega) (by omega) rfl) ?_
                  refine rg_end ?_
                  refine n_then ?_
                  refine cnd rfl (fun hc5 => ?_) (fun hc5 => ?_)
                  ·
                    try simp only [decide_eq_true_eq, decide_eq_false_iff_not, Bool.not_eq_true', Bool.not_eq_false', Bool.and_eq_true, Bool.or_eq_true, Bool.or_eq_false_iff, Bool.cond_true_right, Bool.cond_false_right, Bool.cond_true_left, Bool.cond_false_left, ne_eq, Decidable.not_not, bne_iff_ne, beq_iff_eq, beq_eq_false_iff_ne, Bool.not_true, Bool.not_false] at hc5
                    have hv : (if el (cutL N tree out) (k : Int) = true then (el t (k : Int) + moD N tree t out into) % N.p else el t (k : Int)) = (el t (k : Int) + moD N tree t out into) % N.p := if_pos hc5
                    refine rgD 11 (fun w_ => Ext w69 w_) (fun i => Nat.beq i 10) mixed (by kernel_rfl) ?_
                    intro w72 ho73 hs74
                    refine ⟨ho73, ?_⟩
                    have hx75 := ho73
                    refine tn rfl (fun _ hG => mvS rfl) ?_
                    refine tn rfl (fun _ hG => mvI rfl) ?_
                    refine tn rfl (fun _ hG => mvS rfl) ?_
                    refine tn rfl (fun _ hG => mvI rfl) ?_
                    refine tn rfl (fun _ hG => y_ix (hC.ext hG).sl sl22 rfl (hTl.symm) rfl (by omega) (by omega)) ?_
                    refine tn rfl (fun _ hG => y_le (hC.ext hG).sl na3 rfl (by omega) (by omega) rfl) ?_
                    refine tn rfl (fun _ hG => mvI rfl) ?_
                    refine tn rfl (fun _ hG => y_add rfl rfl (by rw [hk2]; omega)) ?_
                    refine tn rfl (fun _ hG => y_fld fld26_0 rfl) ?_
                    refine tn rfl (fun _ hG => y_lb (hb5.ext hG) na3 rfl rfl) ?_
                    refine tc rfl cl38 (ref1_Mod_ok _ _ _ (by rw [hk2]; omega) (by omega) (by omega)) rfl ?_
                    rintro v80 w76 ⟨rfl, ho77⟩
                    rw [hk2, ← hdd]
                    have hx81 := hx75.step ho77 (.inl (Nat.le_refl _))
                    have hz82 := ho77.size
                    refine ⟨hx81, ?_⟩
                    refine t_end ?_
                    have hz83 := hx81.size
                    replace hN := hN.ext hx81
                    replace hTr := hTr.ext hx81
                    replace hT := hT.ext hx81
                    replace hE := hE.step hx81 (.inl (Nat.le_refl _))
                    replace hb5 := hb5.ext hx81
                    replace hm := hm.ext hx81
                    replace hb14 := hb14.ext hx81
                    replace hC := hC.ext hx81
                    replace hlp0 := hlp0.step hx81 (.inl (Nat.le_refl _))
                    refine st (y_ix hC.sl sl22 rfl (hTl.symm) rfl (by omega) (by omega)) ?_
                    refine sd0 (d_se (j := 0) (e' := ((el t (k : Int) + moD N tree t out into) % N.p)) hC sz3 rfl rfl rfl (by omega) (by omega) (Nat.le_of_ble_eq_true rfl) rfl ?_)
                    intro w84 hs86 ho85 hC'
                    have hrhC := hC.rng
                    clear hC; have hC := hC'; clear hC'
                    have hz87 := ho85.size
                    replace hN := hN.out ho85 (by first | omega | (simp only [blk_some, hi1_some] at *; omega))
                    replace hTr := hTr.out ho85 (by first | omega | (simp only [blk_some, hi1_some] at *; omega))
                    replace hT := hT.out ho85 (by first | omega | (simp only [blk_some, hi1_some] at *; omega))
                    replace hE := hE.step ho85 (by first | omega | (simp only [blk_some, hi1_some] at *; omega))
                    replace hb5 := hb5.out ho85 (by first | omega | (simp only [blk_some, hi1_some] at *; omega))
                    replace hm := hm.out ho85 (by first | omega | (simp only [blk_some, hi1_some] at *; omega))
                    replace hb14 := hb14.out ho85 (by first | omega | (simp only [blk_some, hi1_some] at *; omega))
                    replace hlp0 := hlp0.step ho85 (by first | omega | (simp only [blk_some, hi1_some] at *; omega))
                    have hlt1 : ∀ q : Nat, q < k + 1 → el (T.set (k : Int).toNat ((el t (k : Int) + moD N tree t out into) % N.p)) (q : Int) = if el (cutL N tree out) (q : Int) = true then (el t (q : Int) + moD N tree t out into) % N.p else el t (q : Int) := fun q hq => by
                      by_cases e : q = k
                      · subst e; rw [elSetS (by omega) (by omega), hv]
                      · rw [elSetN (by omega) (by omega) (by omega)]; exact hlt q (by omega)
                    have hge1 : ∀ q : Nat, k + 1 ≤ q → q < t.length → el (T.set (k : Int).toNat ((el t (k : Int) + moD N tree t out into) % N.p)) (q : Int) = el t (q : Int) := fun q h1 h2 => by
                      rw [elSetN (by omega) (by omega) (by omega)]; exact hge q (by omega) h2
                    have hTl1 : (T.set (k : Int).toNat ((el t (k : Int) + moD N tree t out into) % N.p)).length = t.length := by simp [hTl]
                    refine rg_end ?_
                    refine n_blk ?_
                    refine n_then ?_
                    refine rg ?_
                    refine st (y_add rfl rfl (by omega)) ?_
                    refine st (mvI rfl) ?_
                    refine rg_end ?_
                    exact n_then ⟨(k + 1, _), _, rfl, same_lk rfl (same_h0), ⟨rfl, trivial⟩, ⟨hlp0, by omega, hTl1, hlt1, hge1, hC⟩, by first | omega | (dsimp only; omega)⟩
                  ·
                    try simp only [decide_eq_true_eq, decide_eq_false_iff_not, Bool.not_eq_true', Bool.not_eq_false', Bool.and_eq_true, Bool.or_eq_true, Bool.or_eq_false_iff, Bool.cond_true_right, Bool.cond_false_right, Bool.cond_true_left, Bool.cond_false_left, ne_eq, Decidable.not_not, bne_iff_ne, beq_iff_eq, beq_eq_false_iff_ne, Bool.not_true, Bool.not_false] at hc5
                    have hlt1 : ∀ q : Nat, q < k + 1 → el T (q : Int) = if el (cutL N tree out) (q : Int) = true then (el t (q : Int) + moD N tree t out into) % N.p else el t (q : Int) := fun q hq => by
                      by_cases e : q = k
                      · subst e; rw [if_neg (by rw [hc5]; decide)]; exact hk2
                      · exact hlt q (by omega)
                    have hge1 : ∀ q : Nat, k + 1 ≤ q → q < t.length → el T (q : Int) = el t (q : Int) := fun q h1 h2 => hge q (by omega) h2
                    have hTl1 := hTl
                    refine wp_skip ?_
                    refine n_blk ?_
                    refine n_then ?_
                    refine rg ?_
                    refine st (y_add rfl rfl (by omega)) ?_
                    refine st (mvI rfl) ?_
                    refine rg_end ?_
                    exact n_then ⟨(k + 1, _), _, rfl, same_lk rfl (same_h0), ⟨rfl, trivial⟩, ⟨hlp0, by omega, hTl1, hlt1, hge1, hC⟩, by first | omega | (dsimp only; omega)⟩
                ·
                  try simp only [decide_eq_true_eq, decide_eq_false_iff_not, Bool.not_eq_true', Bool.not_eq_false', Bool.and_eq_true, Bool.or_eq_true, Bool.or_eq_false_iff, Bool.cond_true_right, Bool.cond_false_right, Bool.cond_true_left, Bool.cond_false_left, ne_eq, Decidable.not_not, bne_iff_ne, beq_iff_eq, beq_eq_false_iff_ne, Bool.not_true, Bool.not_false] at hc4
                  have hTe : T = moT N tree t out into := extEl (by rw [hTl, moT_len]) (fun i i0 i1 => by
                    obtain ⟨q, rfl⟩ := Int.eq_ofNat_of_zero_le i0
                    rw [hlt q (by omega), moT_el (by omega)])
                  rw [← hTl]
                  refine wp_exit ?_
                  refine e_then (e_then (e_blk (?_)))
                  refine n_then ?_
                  refine wp_seq ?_
                  refine wp_seq ?_
                  refine rg ?_
                  refine st (y_lbN hb5 agg26 rfl) ?_
                  refine st (mvS rfl) ?_
                  refine sc cl25 (ref11_Feasible_ok N A _ _ T _ _ _ _ _ hN (Ow.sl hC)) rfl ?_
                  rintro v92 w88 ⟨rfl, ho89⟩
                  have hz93 := ho89.size
                  replace hN := hN.ext ho89
                  replace hTr := hTr.ext ho89
                  replace hT := hT.ext ho89
                  replace hE := hE.step ho89 (.inl (Nat.le_refl _))
                  replace hb5 := hb5.ext ho89
                  replace hm := hm.ext ho89
                  replace hb14 := hb14.ext ho89
                  replace hC := hC.ext ho89
                  refine st (y_not rfl) ?_
                  refine rg_end ?_
                  refine n_then ?_
                  refine cnd rfl (fun hc6 => ?_) (fun hc6 => ?_)
                  ·
                    try simp only [decide_eq_true_eq, decide_eq_false_iff_not, Bool.not_eq_true', Bool.not_eq_false', Bool.and_eq_true, Bool.or_eq_true, Bool.or_eq_false_iff, Bool.cond_true_right, Bool.cond_false_right, Bool.cond_true_left, Bool.cond_false_left, ne_eq, Decidable.not_not, bne_iff_ne, beq_iff_eq, beq_eq_false_iff_ne, Bool.not_true, Bool.not_false] at hc6
                    have hno : ¬ MvOk N tree t out into := fun h => by have := h.ft; rw [← hTe, hc6] at this; cases this
                    refine wp_seq ?_
                    refine rg ?_
                    refine st (asS rfl) ?_
                    refine st (asS rfl) ?_
                    refine st (asI rfl) ?_
                    refine rg_end ?_
                    refine n_then ?_
                    refine wp_ret ?_
                    refine r_then (ret3 (v := (.slice _ _ _)) (v' := (.slice _ _ _)) (v'' := (.int .i64 _)) Try.results56 rfl rfl rfl ?_)
                    exact ⟨none, 0, [], none, 0, [], 14, rfl, ⟨fun h => absurd rfl h, fun i x hx => by simp at hx⟩, ⟨fun h => absurd rfl h, fun i x hx => by simp at hx⟩, by simp, ⟨fun h => (by omega), fun h => absurd h hno⟩, fun h => (by omega), hE⟩
                  ·
                    try simp only [decide_eq_true_eq, decide_eq_false_iff_not, Bool.not_eq_true', Bool.not_eq_false', Bool.and_eq_true, Bool.or_eq_true, Bool.or_eq_false_iff, Bool.cond_true_right, Bool.cond_false_right, Bool.cond_true_left, Bool.cond_false_left, ne_eq, Decidable.not_not, bne_iff_ne, beq_iff_eq, beq_eq_false_iff_ne, Bool.not_true, Bool.not_false] at hc6
                    have hmv : MvOk N tree t out into := ⟨hfo, hc0, hmm, hir, hio2, hc2, by rw [← hTe]; exact hc6⟩
                    refine wp_skip ?_
                    refine n_then ?_
                    refine wp_seq ?_
                    refine rg ?_
                    refine st (asS rfl) ?_
                    refine rg_end ?_
                    refine n_then ?_
                    refine wp_seq ?_
                    refine wp_seq ?_
                    refine rg ?_
                    refine st (asI rfl) ?_
                    refine rg_end ?_
                    refine n_then ?_
                    refine wp_block ?_
                    obtain ⟨z7, hz7⟩ : ∃ z, z = w88.heap.size := ⟨_, rfl⟩
                    refine lp (γ := Nat × List Int × Option Addr × Nat) [18, 19, 110, 111, 112, 113, 114, 115, 116, 117, 118, 119, 120, 121, 122, 123, 124, 125, 126, 127, 128, 129, 130, 131, 132, 133] (fun ⟨k, f, ao, co⟩ => [(19, .int .i64 (k : Int)), (18, .slice ao f.length co)]) (fun ⟨k, f, ao, co⟩ w_ => Ext w88 w_ ∧ (k : Int) ≤ N.acts.length ∧ ((f.length : Nat) : Int) ≤ k ∧ Ow 3 encI 1 z7 w_.heap.size w_ ao co f) (fun ⟨k, f, ao, co⟩ => N.acts.length - k) (0, [], none, 0) ⟨rfl, rfl, trivial⟩ ⟨Out.refl _ _ _, by simp, by simp, Ow.nil (fun _ => rfl)⟩ ?_
                    rintro ⟨k, f, ao, co⟩ hav_ w94 ⟨ho95, hk2_, hfl, hO⟩
                    have hlp1 := ho95
                    have hz96 := ho95.size
                    replace hN := hN.ext ho95
                    replace hTr := hTr.ext ho95
                    replace hT := hT.ext ho95
                    replace hE := hE.step ho95 (.inl (Nat.le_refl _))
                    replace hb5 := hb5.ext ho95
                    replace hm := hm.ext ho95
                    replace hb14 := hb14.ext ho95
                    replace hC := hC.ext ho95
                    refine wp_seq ?_
                    refine wp_seq ?_
                    refine rg ?_
                    refine st (mvI rfl) ?_
                    refine st (y_fld fld26_2 rfl) ?_
                    refine st (y_lb hb5 na24 rfl rfl) ?_
                    refine st (y_len Try.underlying24 rfl) ?_
                    refine st (y_lss rfl rfl) ?_
                    refine rg_end ?_
                    refine n_then ?_
                    refine cnd rfl (fun hc7 => ?_) (fun hc7 => ?_)
                    ·
                      try simp only [decide_eq_true_eq, decide_eq_false_iff_not, Bool.not_eq_true', Bool.not_eq_false', Bool.and_eq_true, Bool.or_eq_true, Bool.or_eq_false_iff, Bool.cond_true_right, Bool.cond_false_right, Bool.cond_true_left, Bool.cond_false_left, ne_eq, Decidable.not_not, bne_iff_ne, beq_iff_eq, beq_eq_false_iff_ne, Bool.not_true, Bool.not_false] at hc7
                      refine wp_skip ?_
                      refine n_then ?_
                      refine wp_seq ?_
                      refine wp_block ?_
                      refine wp_seq ?_
                      refine rg ?_
                      refine st (mvI rfl) ?_
                      refine st (mvI rfl) ?_
                      refine st (y_eql rfl rfl) ?_
                      refine st (mvB rfl) ?_
                      refine gspL 120 rfl (fun hg97 => ?_) (fun hg97 => ?_)
                      ·
                        have hg97n := hg97; try simp only [decide_eq_true_eq, decide_eq_false_iff_not, Bool.not_eq_true', Bool.not_eq_false', Bool.and_eq_true, Bool.or_eq_true, Bool.or_eq_false_iff, Bool.cond_true_right, Bool.cond_false_right, Bool.cond_true_left, Bool.cond_false_left, ne_eq, Decidable.not_not, bne_iff_ne, beq_iff_eq, beq_eq_false_iff_ne, Bool.not_true, Bool.not_false] at hg97n
                        refine sts rfl rfl hg97 ?_
                        refine sts rfl rfl hg97 ?_
                        refine sts rfl rfl hg97 ?_
                        refine sts rfl rfl hg97 ?_
                        refine stu rfl rfl ?_
                        refine stu rfl rfl ?_
                        refine stu rfl rfl ?_
                        refine sts rfl rfl hg97 ?_
                        refine st (y_pickT rfl hg97 (v := .bool _) rfl) ?_
                        refine rg_end ?_
                        refine n_then ?_
                        refine cnd rfl (fun hc8 => ?_) (fun hc8 => absurd hc8 (by decide))
                        refine rg ?_
                        refine st (mvS rfl) ?_
                        refine st (mvI rfl) ?_
                        refine sd (d_bs (bsl22_1 _ _) rfl ?_)
                        intro bl101 w98 hbbl101 hs100 ho99 hbl101
                        have hz102 := ho99.size
                        replace hN := hN.ext ho99
                        replace hTr := hTr.ext ho99
                        replace hT := hT.ext ho99
                        replace hE := hE.step ho99 (.inl (Nat.le_refl _))
                        replace hb5 := hb5.ext ho99
                        replace hm := hm.ext ho99
                        replace hb14 := hb14.ext ho99
                        replace hC := hC.ext ho99
                        replace hO := hO.ext ho99
                        replace hlp1 := hlp1.step ho99 (.inl (Nat.le_refl _))
                        have hrhO := hO.rng
                        refine sd (d_app (xs := [(k : Int)]) hO sl22 infoz3 (by decide) rfl rfl rfl rfl (hbl101) (fun _ => rfl) (by simp; unfold maxLen; omega) (by simp; omega) (by omega) (by omega) ?_)
                        intro ao1 co1 w103 ho104 hO'
                        have hs105 := ho104.size
                        clear hO; have hO := hO'; clear hO'
                        have hz108 := ho104.size
                        replace hN := hN.out ho104 (by first | omega | (simp only [blk_some, hi1_some] at *; omega))
                        replace hTr := hTr.out ho104 (by first | omega | (simp only [blk_some, hi1_some] at *; omega))
                        replace hT := hT.out ho104 (by first | omega | (simp only [blk_some, hi1_some] at *; omega))
                        replace hE := hE.step ho104 (by first | omega | (simp only [blk_some, hi1_some] at *; omega))
                        replace hb5 := hb5.out ho104 (by first | omega | (simp only [blk_some, hi1_some] at *; omega))
                        replace hm := hm.out ho104 (by first | omega | (simp only [blk_some, hi1_some] at *; omega))
                        replace hb14 := hb14.out ho104 (by first | omega | (simp only [blk_some, hi1_some] at *; omega))
                        have hrnhC := hC.rng
                        replace hC := hC.out ho104 (by first | omega | (simp only [blk_some, hi1_some] at *; omega))
                        replace hlp1 := hlp1.step ho104 (by first | omega | (simp only [blk_some, hi1_some] at *; omega))
                        refine st (asS rfl) ?_
                        refine rg_end ?_
                        refine n_blk ?_
                        refine n_then ?_
                        refine rg ?_
                        refine st (mvI rfl) ?_
                        refine st (y_add rfl rfl (by omega)) ?_
                        refine st (asI rfl) ?_
                        refine rg_end ?_
                        exact n_then ⟨(k + 1, _, _, _), _, rfl, same_lk rfl (same_h0), ⟨rfl, rfl, trivial⟩, ⟨hlp1, by omega, by first | omega | (simp; omega), hO.wide (by omega)⟩, by first | omega | (dsimp only; omega)⟩
                      ·
                        have hg97n := hg97; try simp only [decide_eq_true_eq, decide_eq_false_iff_not, Bool.not_eq_true', Bool.not_eq_false', Bool.and_eq_true, Bool.or_eq_true, Bool.or_eq_false_iff, Bool.cond_true_right, Bool.cond_false_right, Bool.cond_true_left, Bool.cond_false_left, ne_eq, Decidable.not_not, bne_iff_ne, beq_iff_eq, beq_eq_false_iff_ne, Bool.not_true, Bool.not_false] at hg97n
                        refine stg rfl rfl hg97 (mvI rfl) ?_
                        refine stg rfl rfl hg97 (mvI rfl) ?_
                        refine stg rfl rfl hg97 (y_neq rfl rfl) ?_
                        refine stg rfl rfl hg97 (mvB rfl) ?_
                        refine gspL 124 rfl (fun hg109 => ?_) (fun hg109 => ?_)
                        ·
                          have hg109n := hg109; try simp only [decide_eq_true_eq, decide_eq_false_iff_not, Bool.not_eq_true', Bool.not_eq_false', Bool.and_eq_true, Bool.or_eq_true, Bool.or_eq_false_iff, Bool.cond_true_right, Bool.cond_false_right, Bool.cond_true_left, Bool.cond_false_left, ne_eq, Decidable.not_not, bne_iff_ne, beq_iff_eq, beq_eq_false_iff_ne, Bool.not_true, Bool.not_false] at hg109n
                          refine stg rfl rfl hg109 (mvS rfl) ?_
                          refine stg rfl rfl hg109 (mvI rfl) ?_
                          refine scg rfl rfl hg109 cl67 (ref13_has_ok tree _ _ _ _ (k : Int) _ hTr htn) rfl ?_
                          rintro v114 w110 ⟨rfl, ho111⟩
                          have hz115 := ho111.size
                          replace hN := hN.ext ho111
                          replace hTr := hTr.ext ho111
                          replace hT := hT.ext ho111
                          replace hE := hE.step ho111 (.inl (Nat.le_refl _))
                          replace hb5 := hb5.ext ho111
                          replace hm := hm.ext ho111
                          replace hb14 := hb14.ext ho111
                          replace hC := hC.ext ho111
                          replace hO := hO.ext ho111
                          replace hlp1 := hlp1.step ho111 (.inl (Nat.le_refl _))
                          refine stg rfl rfl hg97 (y_pickT rfl hg109 (v := .bool _) rfl) ?_
                          refine st (y_pickF rfl hg97 (v := .bool _) rfl) ?_
                          refine rg_end ?_
                          refine n_then ?_
                          refine cnd rfl (fun hc8 => ?_) (fun hc8 => ?_)
                          ·
                            try simp only [decide_eq_true_eq, decide_eq_false_iff_not, Bool.not_eq_true', Bool.not_eq_false', Bool.and_eq_true, Bool.or_eq_true, Bool.or_eq_false_iff, Bool.cond_true_right, Bool.cond_false_right, Bool.cond_true_left, Bool.cond_false_left, ne_eq, Decidable.not_not, bne_iff_ne, beq_iff_eq, beq_eq_false_iff_ne, Bool.not_true, Bool.not_false] at hc8
                            refine rg ?_
                            refine st (mvS rfl) ?_
                            refine st (mvI rfl) ?_
                            refine sd (d_bs (bsl22_1 _ _) rfl ?_)
                            intro bl119 w116 hbbl119 hs118 ho117 hbl119
                            have hz120 := ho117.size
                            replace hN := hN.ext ho117
                            replace hTr := hTr.ext ho117
                            replace hT := hT.ext ho117
                            replace hE := hE.step ho117 (.inl (Nat.le_refl _))
                            replace hb5 := hb5.ext ho117
                            replace hm := hm.ext ho117
                            replace hb14 := hb14.ext ho117
                            replace hC := hC.ext ho117
                            replace hO := hO.ext ho117
                            replace hlp1 := hlp1.step ho117 (.inl (Nat.le_refl _))
                            have hrhO := hO.rng
                            refine sd (d_app (xs := [(k : Int)]) hO sl22 infoz3 (by decide) rfl rfl rfl rfl (hbl119) (fun _ => rfl) (by simp; unfold maxLen; omega) (by simp; omega) (by omega) (by omega) ?_)
                            intro ao1 co1 w121 ho122 hO'
                            have hs123 := ho122.size
                            clear hO; have hO := hO'; clear hO'
                            have hz126 := ho122.size
                            replace hN := hN.out ho122 (by first | omega | (simp only [blk_some, hi1_some] at *; omega))
                            replace hTr := hTr.out ho122 (by first | omega | (simp only [blk_some, hi1_some] at *; omega))
                            replace hT := hT.out ho122 (by first | omega | (simp only [blk_some, hi1_some] at *; omega))
                            replace hE := hE.step ho122 (by first | omega | (simp only [blk_some, hi1_some] at *; omega))
                            replace hb5 := hb5.out ho122 (by first | omega | (simp only [blk_some, hi1_some] at *; omega))
                            replace hm := hm.out ho122 (by first | omega | (simp only [blk_some, hi1_some] at *; omega))
                            replace hb14 := hb14.out ho122 (by first | omega | (simp only [blk_some, hi1_some] at *; omega))
                            have hrnhC := hC.rng
                            replace hC := hC.out ho122 (by first | omega | (simp only [blk_some, hi1_some] at *; omega))
                            replace hlp1 := hlp1.step ho122 (by first | omega | (simp only [blk_some, hi1_some] at *; omega))
                            refine st (asS rfl) ?_
                            refine rg_end ?_
                            refine n_blk ?_
                            refine n_then ?_
                            refine rg ?_
                            refine st (mvI rfl) ?_
                            refine st (y_add rfl rfl (by omega)) ?_
                            refine st (asI rfl) ?_
                            refine rg_end ?_
                            exact n_then ⟨(k + 1, _, _, _), _, rfl, same_lk rfl (same_h0), ⟨rfl, rfl, trivial⟩, ⟨hlp1, by omega, by first | omega | (simp; omega), hO.wide (by omega)⟩, by first | omega | (dsimp only; omega)⟩
                          ·
                            try simp only [decide_eq_true_eq, decide_eq_false_iff_not, Bool.not_eq_true', Bool.not_eq_false', Bool.and_eq_true, Bool.or_eq_true, Bool.or_eq_false_iff, Bool.cond_true_right, Bool.cond_false_right, Bool.cond_true_left, Bool.cond_false_left, ne_eq, Decidable.not_not, bne_iff_ne, beq_iff_eq, beq_eq_false_iff_ne, Bool.not_true, Bool.not_false] at hc8
                            refine wp_skip ?_
                            refine n_blk ?_
                            refine n_then ?_
                            refine rg ?_
                            refine st (mvI rfl) ?_
                            refine st (y_add rfl rfl (by omega)) ?_
                            refine st (asI rfl) ?_
                            refine rg_end ?_
                            exact n_then ⟨(k + 1, _, _, _), _, rfl, same_lk rfl (same_h0), ⟨rfl, rfl, trivial⟩, ⟨hlp1, by omega, by first | omega | (simp; omega), hO.wide (by omega)⟩, by first | omega | (dsimp only; omega)⟩
                        ·
                          have hg109n := hg109; try simp only [decide_eq_true_eq, decide_eq_false_iff_not, Bool.not_eq_true', Bool.not_eq_false', Bool.and_eq_true, Bool.or_eq_true, Bool.or_eq_false_iff, Bool.cond_true_right, Bool.cond_false_right, Bool.cond_true_left, Bool.cond_false_left, ne_eq, Decidable.not_not, bne_iff_ne, beq_iff_eq, beq_eq_false_iff_ne, Bool.not_true, Bool.not_false] at hg109n
                          refine sts rfl rfl hg109 ?_
                          refine sts rfl rfl hg109 ?_
                          refine sts rfl rfl hg109 ?_
                          refine stg rfl rfl hg97 (y_pickF rfl hg109 (v := .bool _) rfl) ?_
                          refine st (y_pickF rfl hg97 (v := .bool _) rfl) ?_
                          refine rg_end ?_
                          refine n_then ?_
                          refine cnd rfl (fun hc8 => absurd hc8 (by decide)) (fun hc8 => ?_)
                          refine wp_skip ?_
                          refine n_blk ?_
                          refine n_then ?_
                          refine rg ?_
                          refine st (mvI rfl) ?_
                          refine st (y_add rfl rfl (by omega)) ?_
                          refine st (asI rfl) ?_
                          refine rg_end ?_
                          exact n_then ⟨(k + 1, _, _, _), _, rfl, same_lk rfl (same_h0), ⟨rfl, rfl, trivial⟩, ⟨hlp1, by omega, by first | omega | (simp; omega), hO.wide (by omega)⟩, by first | omega | (dsimp only; omega)⟩
                    ·
                      try simp only [decide_eq_true_eq, decide_eq_false_iff_not, Bool.not_eq_true', Bool.not_eq_false', Bool.and_eq_true, Bool.or_eq_true, Bool.or_eq_false_iff, Bool.cond_true_right, Bool.cond_false_right, Bool.cond_true_left, Bool.cond_false_left, ne_eq, Decidable.not_not, bne_iff_ne, beq_iff_eq, beq_eq_false_iff_ne, Bool.not_true, Bool.not_false] at hc7
                      refine wp_exit ?_
                      refine e_then (e_then (e_blk (?_)))
                      refine n_then ?_
                      refine wp_seq ?_
                      refine rg ?_
                      refine st (mvS rfl) ?_
                      refine st (mvS rfl) ?_
                      refine st (asS rfl) ?_
                      refine st (asS rfl) ?_
                      refine st (asI rfl) ?_
                      refine rg_end ?_
                      refine n_then ?_
                      refine wp_ret ?_
                      refine ret3 (v := (.slice _ _ _)) (v' := (.slice _ _ _)) (v'' := (.int .i64 _)) Try.results56 rfl rfl rfl ?_
                      exact ⟨ao, co, f, a16, c16, T, 0, by first | rfl | rw [hTl], Sl.wide (Ow.sl hO) (by omega) (by omega), Sl.wide (Ow.sl hC) (by omega) (by omega), by omega, ⟨fun _ => hmv, fun _ => rfl⟩, fun _ => hc6, hE⟩
              ·
                try simp only [decide_eq_true_eq, decide_eq_false_iff_not, Bool.not_eq_true', Bool.not_eq_false', Bool.and_eq_true, Bool.or_eq_true, Bool.or_eq_false_iff, Bool.cond_true_right, Bool.cond_false_right, Bool.cond_true_left, Bool.cond_false_left, ne_eq, Decidable.not_not, bne_iff_ne, beq_iff_eq, beq_eq_false_iff_ne, Bool.not_true, Bool.not_false] at hc3
                have hdd : moD N tree t out into = durA N t (el N.acts into) - (el N.acts into).mn := if_neg (by rw [hc3]; decide)
                refine wp_skip ?_
                refine n_then ?_
                refine wp_seq ?_
                refine rg ?_
                refine st (mvS rfl) ?_
                obtain ⟨zc_, hzc_⟩ : ∃ z, z = w55.heap.size := ⟨_, rfl⟩
                have hC := Ow.nil (E := 3) (sz := 1) (enc := encI) (lo := zc_) (hi := 0) (w := w55) (fun _ => rfl)
                have hrhC := hC.rng
                refine sd (d_appN (xs := t) hC sl22 infoz3 (by decide) rfl rfl rfl (rfl) (hT) (fun _ => rfl) (by simp; unfold maxLen; omega) (by simp; omega) (by omega) (by omega) ?_)
                intro a16 c16 w127 ho128 hC'
                have hs129 := ho128.size
                clear hC; have hC := hC'; clear hC'
                have hz132 := ho128.size
                replace hN := hN.out ho128 (by first | omega | (simp only [blk_some, hi1_some] at *; omega))
                replace hTr := hTr.out ho128 (by first | omega | (simp only [blk_some, hi1_some] at *; omega))
                replace hT := hT.out ho128 (by first | omega | (simp only [blk_some, hi1_some] at *; omega))
                replace hE := hE.step ho128 (by first | omega | (simp only [blk_some, hi1_some] at *; omega))
                replace hb5 := hb5.out ho128 (by first | omega | (simp only [blk_some, hi1_some] at *; omega))
                replace hm := hm.out ho128 (by first | omega | (simp only [blk_some, hi1_some] at *; omega))
                replace hb14 := hb14.out ho128 (by first | omega | (simp only [blk_some, hi1_some] at *; omega))
                simp only [List.nil_append] at hC ⊢
                have hCr := hC.rng
                obtain ⟨z6, hz6⟩ : ∃ z, z = w127.heap.size := ⟨_, rfl⟩
                refine st (asS rfl) ?_
                refine rg_end ?_
                refine n_then ?_
                refine wp_seq ?_
                refine wp_seq ?_
                refine rg ?_
                refine st (mvS rfl) ?_
                refine st (y_len Try.underlying22 rfl) ?_
                refine st (mvI rfl) ?_
                refine rg_end ?_
                refine n_then ?_
                refine wp_block ?_
                refine lp (γ := Nat × List Int) [17, 86, 87, 88, 89, 90, 91, 92, 93, 94, 95, 96, 97, 98, 99, 100, 101, 102, 103, 104, 105] (fun ⟨k, T⟩ => [(86, .int .i64 (k : Int))]) (fun ⟨k, T⟩ w_ => Out (blk a16) (hi1 a16) w127 w_ ∧ (k : Int) ≤ t.length ∧ T.length = t.length ∧ (∀ q : Nat, q < k → el T (q : Int) = if el (cutL N tree out) (q : Int) = true then (el t (q : Int) + moD N tree t out into) % N.p else el t (q : Int)) ∧ (∀ q : Nat, k ≤ q → q < t.length → el T (q : Int) = el t (q : Int)) ∧ Ow 3 encI 1 zc_ z6 w_ a16 c16 T) (fun ⟨k, T⟩ => t.length - k) (0, t) ⟨rfl, trivial⟩ ⟨Out.refl _ _ _, by omega, rfl, (fun q hq => by omega), (fun q _ _ => rfl), hC.wide (by omega)⟩ ?_
                rintro ⟨k, T⟩ hav_ w133 ⟨ho134, hk_, hTl, hlt, hge, hC⟩
                have hlp0 := ho134
                have hz135 := ho134.size
                replace hN := hN.out ho134 (by first | omega | (simp only [blk_some, hi1_some] at *; omega))
                replace hTr := hTr.out ho134 (by first | omega | (simp only [blk_some, hi1_some] at *; omega))
                replace hT := hT.out ho134 (by first | omega | (simp only [blk_some, hi1_some] at *; omega))
                replace hE := hE.step ho134 (by first | omega | (simp only [blk_some, hi1_some] at *; omega))
                replace hb5 := hb5.out ho134 (by first | omega | (simp only [blk_some, hi1_some] at *; omega))
                replace hm := hm.out ho134 (by first | omega | (simp only [blk_some, hi1_some] at *; omega))
                replace hb14 := hb14.out ho134 (by first | omega | (simp only [blk_some, hi1_some] at *; omega))
                refine wp_seq ?_
                refine rg ?_
                refine st (y_lss rfl rfl) ?_
                refine rg_end ?_
                refine n_then ?_
                refine wp_seq ?_
                refine cnd rfl (fun hc4 => ?_) (fun hc4 => ?_)
                ·
                  try simp only [decide_eq_true_eq, decide_eq_false_iff_not, Bool.not_eq_true', Bool.not_eq_false', Bool.and_eq_true, Bool.or_eq_true, Bool.or_eq_false_iff, Bool.cond_true_right, Bool.cond_false_right, Bool.cond_true_left, Bool.cond_false_left, ne_eq, Decidable.not_not, bne_iff_ne, beq_iff_eq, beq_eq_false_iff_ne, Bool.not_true, Bool.not_false] at hc4
                  have hk2 := hge k (Nat.le_refl _) (by omega)
                  have b3 := hg.rng _ (el_mem (l := t) (i := (k : Int)) (by omega) (by omega))
                  refine wp_skip ?_
                  refine n_then ?_
                  refine wp_seq ?_
                  refine wp_block ?_
                  refine wp_seq ?_
                  refine rg ?_
                  refine st (mvI rfl) ?_
                  refine st (asI rfl) ?_
                  refine rg_end ?_
                  refine n_then ?_
                  refine wp_seq ?_
                  refine rg ?_
                  refine st (mvS rfl) ?_
                  refine st (mvI rfl) ?_
                  refine st (y_ix hm sl68 rfl (hml.symm) rfl (by omega) (by omega)) ?_
                  refine st (y_le hm na4 rfl (by omega) (by omega) rfl) ?_
                  refine rg_end ?_
                  refine n_then ?_
                  refine cnd rfl (fun hc5 => ?_) (fun hc5 => ?_)
                  ·
                    try simp only [decide_eq_true_eq, decide_eq_false_iff_not, Bool.not_eq_true', Bool.not_eq_false', Bool.and_eq_true, Bool.or_eq_true, Bool.or_eq_false_iff, Bool.cond_true_right, Bool.cond_false_right, Bool.cond_true_left, Bool.cond_false_left, ne_eq, Decidable.not_not, bne_iff_ne, beq_iff_eq, beq_eq_false_iff_ne, Bool.not_true, Bool.not_false] at hc5
                    have hv : (if el (cutL N tree out) (k : Int) = true then (el t (k : Int) + moD N tree t out into) % N.p else el t (k : Int)) = (el t (k : Int) + moD N tree t out into) % N.p := if_pos hc5
                    refine rgD 11 (fun w_ => Ext w133 w_) (fun i => Nat.beq i 10) mixed (by kernel_rfl) ?_
                    intro w136 ho137 hs138
                    refine ⟨ho137, ?_⟩
                    have hx139 := ho137
                    refine tn rfl (fun _ hG => mvS rfl) ?_
                    refine tn rfl (fun _ hG => mvI rfl) ?_
                    refine tn rfl (fun _ hG => mvS rfl) ?_
                    refine tn rfl (fun _ hG => mvI rfl) ?_
                    refine tn rfl (fun _ hG => y_ix (hC.ext hG).sl sl22 rfl (hTl.symm) rfl (by omega) (by omega)) ?_
                    refine tn rfl (fun _ hG => y_le (hC.ext hG).sl na3 rfl (by omega) (by omega) rfl) ?_
                    refine tn rfl (fun _ hG => mvI rfl) ?_
                    refine tn rfl (fun _ hG => y_add rfl rfl (by rw [hk2]; omega)) ?_
                    refine tn rfl (fun _ hG => y_fld fld26_0 rfl) ?_
                    refine tn rfl (fun _ hG => y_lb (hb5.ext hG) na3 rfl rfl) ?_
                    refine tc rfl cl38 (ref1_Mod_ok _ _ _ (by rw [hk2]; omega) (by omega) (by omega)) rfl ?_
                    rintro v144 w140 ⟨rfl, ho141⟩
                    rw [hk2, ← hdd]
                    have hx145 := hx139.step ho141 (.inl (Nat.le_refl _))
                    have hz146 := ho141.size
                    refine ⟨hx145, ?_⟩
                    refine t_end ?_
                    have hz147 := hx145.size
                    replace hN := hN.ext hx145
                    replace hTr := hTr.ext hx145
                    replace hT := hT.ext hx145
                    replace hE := hE.step hx145 (.inl (Nat.le_refl _))
                    replace hb5 := hb5.ext hx145
                    replace hm := hm.ext hx145
                    replace hb14 := hb14.ext hx145
                    replace hC := hC.ext hx145
                    replace hlp0 := hlp0.step hx145 (.inl (Nat.le_refl _))
                    refine st (y_ix hC.sl sl22 rfl (hTl.symm) rfl (by omega) (by omega)) ?_
                    refine sd0 (d_se (j := 0) (e' := ((el t (k : Int) + moD N tree t out into) % N.p)) hC sz3 rfl rfl rfl (by omega) (by omega) (Nat.le_of_ble_eq_true rfl) rfl ?_)
                    intro w148 hs150 ho149 hC'
                    have hrhC := hC.rng
                    clear hC; have hC := hC'; clear hC'
                    have hz151 := ho149.size
                    replace hN := hN.out ho149 (by first | omega | (simp only [blk_some, hi1_some] at *; omega))
                    replace hTr := hTr.out ho149 (by first | omega | (simp only [blk_some, hi1_some] at *; omega))
                    replace hT := hT.out ho149 (by first | omega | (simp only [blk_some, hi1_some] at *; omega))
                    replace hE := hE.step ho149 (by first | omega | (simp only [blk_some, hi1_some] at *; omega))
                    replace hb5 := hb5.out ho149 (by first | omega | (simp only [blk_some, hi1_some] at *; omega))
                    replace hm := hm.out ho149 (by first | omega | (simp only [blk_some, hi1_some] at *; omega))
                    replace hb14 := hb14.out ho149 (by first | omega | (simp only [blk_some, hi1_some] at *; omega))
                    replace hlp0 := hlp0.step ho149 (by first | omega | (simp only [blk_some, hi1_some] at *; omega))
                    have hlt1 : ∀ q : Nat, q < k + 1 → el (T.set (k : Int).toNat ((el t (k : Int) + moD N tree t out into) % N.p)) (q : Int) = if el (cutL N tree out) (q : Int) = true then (el t (q : Int) + moD N tree t out into) % N.p else el t (q : Int) := fun q hq => by
                      by_cases e : q = k
                      · subst e; rw [elSetS (by omega) (by omega), hv]
                      · rw [elSetN (by omega) (by omega) (by omega)]; exact hlt q (by omega)
                    have hge1 : ∀ q : Nat, k + 1 ≤ q → q < t.length → el (T.set (k : Int).toNat ((el t (k : Int) + moD N tree t out into) % N.p)) (q : Int) = el t (q : Int) := fun q h1 h2 => by
                      rw [elSetN (by omega) (by omega) (by omega)]; exact hge q (by omega) h2
                    have hTl1 : (T.set (k : Int).toNat ((el t (k : Int) + moD N tree t out into) % N.p)).length = t.length := by simp [hTl]
                    refine rg_end ?_
                    refine n_blk ?_
                    refine n_then ?_
                    refine rg ?_
                    refine st (y_add rfl rfl (by omega)) ?_
                    refine st (mvI rfl) ?_
                    refine rg_end ?_
                    exact n_then ⟨(k + 1, _), _, rfl, same_lk rfl (same_h0), ⟨rfl, trivial⟩, ⟨hlp0, by omega, hTl1, hlt1, hge1, hC⟩, by first | omega | (dsimp only; omega)⟩
                  ·
                    try simp only [decide_eq_true_eq, decide_eq_false_iff_not, Bool.not_eq_true', Bool.not_eq_false', Bool.and_eq_true, Bool.or_eq_true, Bool.or_eq_false_iff, Bool.cond_true_right, Bool.cond_false_right, Bool.cond_true_left, Bool.cond_false_left, ne_eq, Decidable.not_not, bne_iff_ne, beq_iff_eq, beq_eq_false_iff_ne, Bool.not_true, Bool.not_false] at hc5
                    have hlt1 : ∀ q : Nat, q < k + 1 → el T (q : Int) = if el (cutL N tree out) (q : Int) = true then (el t (q : Int) + moD N tree t out into) % N.p else el t (q : Int) := fun q hq => by
                      by_cases e : q = k
                      · subst e; rw [if_neg (by rw [hc5]; decide)]; exact hk2
                      · exact hlt q (by omega)
                    have hge1 : ∀ q : Nat, k + 1 ≤ q → q < t.length → el T (q : Int) = el t (q : Int) := fun q h1 h2 => hge q (by omega) h2
                    have hTl1 := hTl
                    refine wp_skip ?_
                    refine n_blk ?_
                    refine n_then ?_
                    refine rg ?_
                    refine st (y_add rfl rfl (by omega)) ?_
                    refine st (mvI rfl) ?_
                    refine rg_end ?_
                    exact n_then ⟨(k + 1, _), _, rfl, same_lk rfl (same_h0), ⟨rfl, trivial⟩, ⟨hlp0, by omega, hTl1, hlt1, hge1, hC⟩, by first | omega | (dsimp only; omega)⟩
                ·
                  try simp only [decide_eq_true_eq, decide_eq_false_iff_not, Bool.not_eq_true', Bool.not_eq_false', Bool.and_eq_true, Bool.or_eq_true, Bool.or_eq_false_iff, Bool.cond_true_right, Bool.cond_false_right, Bool.cond_true_left, Bool.cond_false_left, ne_eq, Decidable.not_not, bne_iff_ne, beq_iff_eq, beq_eq_false_iff_ne, Bool.not_true, Bool.not_false] at hc4
                  have hTe : T = moT N tree t out into := extEl (by rw [hTl, moT_len]) (fun i i0 i1 => by
                    obtain ⟨q, rfl⟩ := Int.eq_ofNat_of_zero_le i0
                    rw [hlt q (by omega), moT_el (by omega)])
                  rw [← hTl]
                  refine wp_exit ?_
                  refine e_then (e_then (e_blk (?_)))
                  refine n_then ?_
                  refine wp_seq ?_
                  refine wp_seq ?_
                  refine rg ?_
                  refine st (y_lbN hb5 agg26 rfl) ?_
                  refine st (mvS rfl) ?_
                  refine sc cl25 (ref11_Feasible_ok N A _ _ T _ _ _ _ _ hN (Ow.sl hC)) rfl ?_
                  rintro v156 w152 ⟨rfl, ho153⟩
                  have hz157 := ho153.size
                  replace hN := hN.ext ho153
                  replace hTr := hTr.ext ho153
                  replace hT := hT.ext ho153
                  replace hE := hE.step ho153 (.inl (Nat.le_refl _))
                  replace hb5 := hb5.ext ho153
                  replace hm := hm.ext ho153
                  replace hb14 := hb14.ext ho153
                  replace hC := hC.ext ho153
                  refine st (y_not rfl) ?_
                  refine rg_end ?_
                  refine n_then ?_
                  refine cnd rfl (fun hc6 => ?_) (fun hc6 => ?_)
                  ·
                    try simp only [decide_eq_true_eq, decide_eq_false_iff_not, Bool.not_eq_true', Bool.not_eq_false', Bool.and_eq_true, Bool.or_eq_true, Bool.or_eq_false_iff, Bool.cond_true_right, Bool.cond_false_right, Bool.cond_true_left, Bool.cond_false_left, ne_eq, Decidable.not_not, bne_iff_ne, beq_iff_eq, beq_eq_false_iff_ne, Bool.not_true, Bool.not_false] at hc6
                    have hno : ¬ MvOk N tree t out into := fun h => by have := h.ft; rw [← hTe, hc6] at this; cases this
                    refine wp_seq ?_
                    refine rg ?_
                    refine st (asS rfl) ?_
                    refine st (asS rfl) ?_
                    refine st (asI rfl) ?_
                    refine rg_end ?_
                    refine n_then ?_
                    refine wp_ret ?_
                    refine r_then (ret3 (v := (.slice _ _ _)) (v' := (.slice _ _ _)) (v'' := (.int .i64 _)) Try.results56 rfl rfl rfl ?_)
                    exact ⟨none, 0, [], none, 0, [], 14, rfl, ⟨fun h => absurd rfl h, fun i x hx => by simp at hx⟩, ⟨fun h => absurd rfl h, fun i x hx => by simp at hx⟩, by simp, ⟨fun h => (by omega), fun h => absurd h hno⟩, fun h => (by omega), hE⟩
                  ·
                    try simp only [decide_eq_true_eq, decide_eq_false_iff_not, Bool.not_eq_true', Bool.not_eq_false', Bool.and_eq_true, Bool.or_eq_true, Bool.or_eq_false_iff, Bool.cond_true_right, Bool.cond_false_right, Bool.cond_true_left, Bool.cond_false_left, ne_eq, Decidable.not_not, bne_iff_ne, beq_iff_eq, beq_eq_false_iff_ne, Bool.not_true, Bool.not_false] at hc6
                    have hmv : MvOk N tree t out into := ⟨hfo, hc0, hmm, hir, hio2, hc2, by rw [← hTe]; exact hc6⟩
                    refine wp_skip ?_
                    refine n_then ?_
                    refine wp_seq ?_
                    refine rg ?_
                    refine st (asS rfl) ?_
                    refine rg_end ?_
                    refine n_then ?_
                    refine wp_seq ?_
                    refine wp_seq ?_
                    refine rg ?_
                    refine st (asI rfl) ?_
                    refine rg_end ?_
                    refine n_then ?_
                    refine wp_block ?_
                    obtain ⟨z7, hz7⟩ : ∃ z, z = w152.heap.size := ⟨_, rfl⟩
                    refine lp (γ := Nat × List Int × Option Addr × Nat) [18, 19, 110, 111, 112, 113, 114, 115, 116, 117, 118, 119, 120, 121, 122, 123, 124, 125, 126, 127, 128, 129, 130, 131, 132, 133] (fun ⟨k, f, ao, co⟩ => [(19, .int .i64 (k : Int)), (18, .slice ao f.length co)]) (fun ⟨k, f, ao, co⟩ w_ => Ext w152 w_ ∧ (k : Int) ≤ N.acts.length ∧ ((f.length : Nat) : Int) ≤ k ∧ Ow 3 encI 1 z7 w_.heap.size w_ ao co f) (fun ⟨k, f, ao, co⟩ => N.acts.length - k) (0, [], none, 0) ⟨rfl, rfl, trivial⟩ ⟨Out.refl _ _ _, by simp, by simp, Ow.nil (fun _ => rfl)⟩ ?_
                    rintro ⟨k, f, ao, co⟩ hav_ w158 ⟨ho159, hk2_, hfl, hO⟩
                    have hlp1 := ho159
                    have hz160 := ho159.size
                    replace hN := hN.ext ho159
                    replace hTr := hTr.ext ho159
                    replace hT := hT.ext ho159
                    replace hE := hE.step ho159 (.inl (Nat.le_refl _))
                    replace hb5 := hb5.ext ho159
                    replace hm := hm.ext ho159
                    replace hb14 := hb14.ext ho159
                    replace hC := hC.ext ho159
                    refine wp_seq ?_
                    refine wp_seq ?_
                    refine rg ?_
                    refine st (mvI rfl) ?_
                    refine st (y_fld fld26_2 rfl) ?_
                    refine st (y_lb hb5 na24 rfl rfl) ?_
                    refine st (y_len Try.underlying24 rfl) ?_
                    refine st (y_lss rfl rfl) ?_
                    refine rg_end ?_
                    refine n_then ?_
                    refine cnd rfl (fun hc7 => ?_) (fun hc7 => ?_)
                    ·
                      try simp only [decide_eq_true_eq, decide_eq_false_iff_not, Bool.not_eq_true', Bool.not_eq_false', Bool.and_eq_true, Bool.or_eq_true, Bool.or_eq_false_iff, Bool.cond_true_right, Bool.cond_false_right, Bool.cond_true_left, Bool.cond_false_left, ne_eq, Decidable.not_not, bne_iff_ne, beq_iff_eq, beq_eq_false_iff_ne, Bool.not_true, Bool.not_false] at hc7
                      refine wp_skip ?_
                      refine n_then ?_
                      refine wp_seq ?_
                      refine wp_block ?_
                      refine wp_seq ?_
                      refine rg ?_
                      refine st (mvI rfl) ?_
                      refine st (mvI rfl) ?_
                      refine st (y_eql rfl rfl) ?_
                      refine st (mvB rfl) ?_
                      refine gspL 120 rfl (fun hg161 => ?_) (fun hg161 => ?_)
                      ·
                        have hg161n := hg161; try simp only [decide_eq_true_eq, decide_eq_false_iff_not, Bool.not_eq_true', Bool.not_eq_false', Bool.and_eq_true, Bool.or_eq_true, Bool.or_eq_false_iff, Bool.cond_true_right, Bool.cond_false_right, Bool.cond_true_left, Bool.cond_false_left, ne_eq, Decidable.not_not, bne_iff_ne, beq_iff_eq, beq_eq_false_iff_ne, Bool.not_true, Bool.not_false] at hg161n
                        refine sts rfl rfl hg161 ?_
                        refine sts rfl rfl hg161 ?_
                        refine sts rfl rfl hg161 ?_
                        refine sts rfl rfl hg161 ?_
                        refine stu rfl rfl ?_
                        refine stu rfl rfl ?_
                        refine stu rfl rfl ?_
                        refine sts rfl rfl hg161 ?_
                        refine st (y_pickT rfl hg161 (v := .bool _) rfl) ?_
                        refine rg_end ?_
                        refine n_then ?_
                        refine cnd rfl (fun hc8 => ?_) (fun hc8 => absurd hc8 (by decide))
                        refine rg ?_
                        refine st (mvS rfl) ?_
                        refine st (mvI rfl) ?_
                        refine sd (d_bs (bsl22_1 _ _) rfl ?_)
                        intro bl165 w162 hbbl165 hs164 ho163 hbl165
                        have hz166 := ho163.size
                        replace hN := hN.ext ho163
                        replace hTr := hTr.ext ho163
                        replace hT := hT.ext ho163
                        replace hE := hE.step ho163 (.inl (Nat.le_refl _))
                        replace hb5 := hb5.ext ho163
                        replace hm := hm.ext ho163
                        replace hb14 := hb14.ext ho163
                        replace hC := hC.ext ho163
                        replace hO := hO.ext ho163
                        replace hlp1 := hlp1.step ho163 (.inl (Nat.le_refl _))
                        have hrhO := hO.rng
                        refine sd (d_app (xs := [(k : Int)]) hO sl22 infoz3 (by decide) rfl rfl rfl rfl (hbl165) (fun _ => rfl) (by simp; unfold maxLen; omega) (by simp; omega) (by omega) (by omega) ?_)
                        intro ao1 co1 w167 ho168 hO'
                        have hs169 := ho168.size
                        clear hO; have hO := hO'; clear hO'
                        have hz172 := ho168.size
                        replace hN := hN.out ho168 (by first | omega | (simp only [blk_some, hi1_some] at *; omega))
                        replace hTr := hTr.out ho168 (by first | omega | (simp only [blk_some, hi1_some] at *; omega))
                        replace hT := hT.out ho168 (by first | omega | (simp only [blk_some, hi1_some] at *; omega))
                        replace hE := hE.step ho168 (by first | omega | (simp only [blk_some, hi1_some] at *; omega))
                        replace hb5 := hb5.out ho168 (by first | omega | (simp only [blk_some, hi1_some] at *; omega))
                        replace hm := hm.out ho168 (by first | omega | (simp only [blk_some, hi1_some] at *; omega))
                        replace hb14 := hb14.out ho168 (by first | omega | (simp only [blk_some, hi1_some] at *; omega))
                        have hrnhC := hC.rng
                        replace hC := hC.out ho168 (by first | omega | (simp only [blk_some, hi1_some] at *; omega))
                        replace hlp1 := hlp1.step ho168 (by first | omega | (simp only [blk_some, hi1_some] at *; omega))
                        refine st (asS rfl) ?_
                        refine rg_end ?_
                        refine n_blk ?_
                        refine n_then ?_
                        refine rg ?_
                        refine st (mvI rfl) ?_
                        refine st (y_add rfl rfl (by omega)) ?_
                        refine st (asI rfl) ?_
                        refine rg_end ?_
                        exact n_then ⟨(k + 1, _, _, _), _, rfl, same_lk rfl (same_h0), ⟨rfl, rfl, trivial⟩, ⟨hlp1, by omega, by first | omega | (simp; omega), hO.wide (by omega)⟩, by first | omega | (dsimp only; omega)⟩
                      ·
                        have hg161n := hg161; try simp only [decide_eq_true_eq, decide_eq_false_iff_not, Bool.not_eq_true', Bool.not_eq_false', Bool.and_eq_true, Bool.or_eq_true, Bool.or_eq_false_iff, Bool.cond_true_right, Bool.cond_false_right, Bool.cond_true_left, Bool.cond_false_left, ne_eq, Decidable.not_not, bne_iff_ne, beq_iff_eq, beq_eq_false_iff_ne, Bool.not_true, Bool.not_false] at hg161n
                        refine stg rfl rfl hg161 (mvI rfl) ?_
                        refine stg rfl rfl hg161 (mvI rfl) ?_
                        refine stg rfl rfl hg161 (y_neq rfl rfl) ?_
                        refine stg rfl rfl hg161 (mvB rfl) ?_
                        refine gspL 124 rfl (fun hg173 => ?_) (fun hg173 => ?_)
                        ·
                          have hg173n := hg173; try simp only [decide_eq_true_eq, decide_eq_false_iff_not, Bool.not_eq_true', Bool.not_eq_false', Bool.and_eq_true, Bool.or_eq_true, Bool.or_eq_false_iff, Bool.cond_true_right, Bool.cond_false_right, Bool.cond_true_left, Bool.cond_false_left, ne_eq, Decidable.not_not, bne_iff_ne, beq_iff_eq, beq_eq_false_iff_ne, Bool.not_true, Bool.not_false] at hg173n
                          refine stg rfl rfl hg173 (mvS rfl) ?_
                          refine stg rfl rfl hg173 (mvI rfl) ?_
                          refine scg rfl rfl hg173 cl67 (ref13_has_ok tree _ _ _ _ (k : Int) _ hTr htn) rfl ?_
                          rintro v178 w174 ⟨rfl, ho175⟩
                          have hz179 := ho175.size
                          replace hN := hN.ext ho175
                          replace hTr := hTr.ext ho175
                          replace hT := hT.ext ho175
                          replace hE := hE.step ho175 (.inl (Nat.le_refl _))
                          replace hb5 := hb5.ext ho175
                          replace hm := hm.ext ho175
                          replace hb14 := hb14.ext ho175
                          replace hC := hC.ext ho175
                          replace hO := hO.ext ho175
                          replace hlp1 := hlp1.step ho175 (.inl (Nat.le_refl _))
                          refine stg rfl rfl hg161 (y_pickT rfl hg173 (v := .bool _) rfl) ?_
                          refine st (y_pickF rfl hg161 (v := .bool _) rfl) ?_
                          refine rg_end ?_
                          refine n_then ?_
                          refine cnd rfl (fun hc8 => ?_) (fun hc8 => ?_)
                          ·
                            try simp only [decide_eq_true_eq, decide_eq_false_iff_not, Bool.not_eq_true', Bool.not_eq_false', Bool.and_eq_true, Bool.or_eq_true, Bool.or_eq_false_iff, Bool.cond_true_right, Bool.cond_false_right, Bool.cond_true_left, Bool.cond_false_left, ne_eq, Decidable.not_not, bne_iff_ne, beq_iff_eq, beq_eq_false_iff_ne, Bool.not_true, Bool.not_false] at hc8
                            refine rg ?_
                            refine st (mvS rfl) ?_
                            refine st (mvI rfl) ?_
                            refine sd (d_bs (bsl22_1 _ _) rfl ?_)
                            intro bl183 w180 hbbl183 hs182 ho181 hbl183
                            have hz184 := ho181.size
                            replace hN := hN.ext ho181
                            replace hTr := hTr.ext ho181
                            replace hT := hT.ext ho181
                            replace hE := hE.step ho181 (.inl (Nat.le_refl _))
                            replace hb5 := hb5.ext ho181
                            replace hm := hm.ext ho181
                            replace hb14 := hb14.ext ho181
                            replace hC := hC.ext ho181
                            replace hO := hO.ext ho181
                            replace hlp1 := hlp1.step ho181 (.inl (Nat.le_refl _))
                            have hrhO := hO.rng
                            refine sd (d_app (xs := [(k : Int)]) hO sl22 infoz3 (by decide) rfl rfl rfl rfl (hbl183) (fun _ => rfl) (by simp; unfold maxLen; omega) (by simp; omega) (by omega) (by omega) ?_)
                            intro ao1 co1 w185 ho186 hO'
                            have hs187 := ho186.size
                            clear hO; have hO := hO'; clear hO'
                            have hz190 := ho186.size
                            replace hN := hN.out ho186 (by first | omega | (simp only [blk_some, hi1_some] at *; omega))
                            replace hTr := hTr.out ho186 (by first | omega | (simp only [blk_some, hi1_some] at *; omega))
                            replace hT := hT.out ho186 (by first | omega | (simp only [blk_some, hi1_some] at *; omega))
                            replace hE := hE.step ho186 (by first | omega | (simp only [blk_some, hi1_some] at *; omega))
                            replace hb5 := hb5.out ho186 (by first | omega | (simp only [blk_some, hi1_some] at *; omega))
                            replace hm := hm.out ho186 (by first | omega | (simp only [blk_some, hi1_some] at *; omega))
                            replace hb14 := hb14.out ho186 (by first | omega | (simp only [blk_some, hi1_some] at *; omega))
                            have hrnhC := hC.rng
                            replace hC := hC.out ho186 (by first | omega | (simp only [blk_some, hi1_some] at *; omega))
                            replace hlp1 := hlp1.step ho186 (by first | omega | (simp only [blk_some, hi1_some] at *; omega))
                            refine st (asS rfl) ?_
                            refine rg_end ?_
                            refine n_blk ?_
                            refine n_then ?_
                            refine rg ?_
                            refine st (mvI rfl) ?_
                            refine st (y_add rfl rfl (by omega)) ?_
                            refine st (asI rfl) ?_
                            refine rg_end ?_
                            exact n_then ⟨(k + 1, _, _, _), _, rfl, same_lk rfl (same_h0), ⟨rfl, rfl, trivial⟩, ⟨hlp1, by omega, by first | omega | (simp; omega), hO.wide (by omega)⟩, by first | omega | (dsimp only; omega)⟩
                          ·
                            try simp only [decide_eq_true_eq, decide_eq_false_iff_not, Bool.not_eq_true', Bool.not_eq_false', Bool.and_eq_true, Bool.or_eq_true, Bool.or_eq_false_iff, Bool.cond_true_right, Bool.cond_false_right, Bool.cond_true_left, Bool.cond_false_left, ne_eq, Decidable.not_not, bne_iff_ne, beq_iff_eq, beq_eq_false_iff_ne, Bool.not_true, Bool.not_false] at hc8
                            refine wp_skip ?_
                            refine n_blk ?_
                            refine n_then ?_
                            refine rg ?_
                            refine st (mvI rfl) ?_
                            refine st (y_add rfl rfl (by omega)) ?_
                            refine st (asI rfl) ?_
                            refine rg_end ?_
                            exact n_then ⟨(k + 1, _, _, _), _, rfl, same_lk rfl (same_h0), ⟨rfl, rfl, trivial⟩, ⟨hlp1, by omega, by first | omega | (simp; omega), hO.wide (by omega)⟩, by first | omega | (dsimp only; omega)⟩
                        ·
                          have hg173n := hg173; try simp only [decide_eq_true_eq, decide_eq_false_iff_not, Bool.not_eq_true', Bool.not_eq_false', Bool.and_eq_true, Bool.or_eq_true, Bool.or_eq_false_iff, Bool.cond_true_right, Bool.cond_false_right, Bool.cond_true_left, Bool.cond_false_left, ne_eq, Decidable.not_not, bne_iff_ne, beq_iff_eq, beq_eq_false_iff_ne, Bool.not_true, Bool.not_false] at hg173n
                          refine sts rfl rfl hg173 ?_
                          refine sts rfl rfl hg173 ?_
                          refine sts rfl rfl hg173 ?_
                          refine stg rfl rfl hg161 (y_pickF rfl hg173 (v := .bool _) rfl) ?_
                          refine st (y_pickF rfl hg161 (v := .bool _) rfl) ?_
                          refine rg_end ?_
                          refine n_then ?_
                          refine cnd rfl (fun hc8 => absurd hc8 (by decide)) (fun hc8 => ?_)
                          refine wp_skip ?_
                          refine n_blk ?_
                          refine n_then ?_
                          refine rg ?_
                          refine st (mvI rfl) ?_
                          refine st (y_add rfl rfl (by omega)) ?_
                          refine st (asI rfl) ?_
                          refine rg_end ?_
                          exact n_then ⟨(k + 1, _, _, _), _, rfl, same_lk rfl (same_h0), ⟨rfl, rfl, trivial⟩, ⟨hlp1, by omega, by first | omega | (simp; omega), hO.wide (by omega)⟩, by first | omega | (dsimp only; omega)⟩
                    ·
                      try simp only [decide_eq_true_eq, decide_eq_false_iff_not, Bool.not_eq_true', Bool.not_eq_false', Bool.and_eq_true, Bool.or_eq_true, Bool.or_eq_false_iff, Bool.cond_true_right, Bool.cond_false_right, Bool.cond_true_left, Bool.cond_false_left, ne_eq, Decidable.not_not, bne_iff_ne, beq_iff_eq, beq_eq_false_iff_ne, Bool.not_true, Bool.not_false] at hc7
                      refine wp_exit ?_
                      refine e_then (e_then (e_blk (?_)))
                      refine n_then ?_
                      refine wp_seq ?_
                      refine rg ?_
                      refine st (mvS rfl) ?_
                      refine st (mvS rfl) ?_
                      refine st (asS rfl) ?_
                      refine st (asS rfl) ?_
                      refine st (asI rfl) ?_
                      refine rg_end ?_
                      refine n_then ?_
                      refine wp_ret ?_
                      refine ret3 (v := (.slice _ _ _)) (v' := (.slice _ _ _)) (v'' := (.int .i64 _)) Try.results56 rfl rfl rfl ?_
                      exact ⟨ao, co, f, a16, c16, T, 0, by first | rfl | rw [hTl], Sl.wide (Ow.sl hO) (by omega) (by omega), Sl.wide (Ow.sl hC) (by omega) (by omega), by omega, ⟨fun _ => hmv, fun _ => rfl⟩, fun _ => hc6, hE⟩
end Go.Proofs.Ytdbiapbdmmkfjaa
