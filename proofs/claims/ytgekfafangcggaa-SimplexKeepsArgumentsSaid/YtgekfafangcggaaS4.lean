/-
  Walks of the functions, printed by a program out of the code and the loops' relations.
-/
import Derived.Test.YtgekfafangcggaaWkH
import Derived.Test.YtgekfafangcggaaProg
import Derived.KernelRfl
import Derived.Test.YtgekfafangcggaaS3
namespace Go.Proofs.Ytgekfafangcggaa
open Go.Wk Go.RowKit
set_option linter.unusedVariables false
set_option linter.unusedSimpArgs false
theorem cl23 : Callable Try.prog 23 := ⟨Try.call23⟩
theorem cl26 : Callable Try.prog 26 := ⟨Try.call26⟩
theorem cl52 : Callable Try.prog 52 := ⟨Try.call52⟩
theorem cl53 : Callable Try.prog 53 := ⟨Try.call53⟩
theorem cl69 : Callable Try.prog 69 := ⟨Try.call69⟩

/-- What Move, Best and Solve hand back. -/
structure MvR (N : Net) (tree t : List Int) (out into : Int) (f T : List Int) (e : Int) : Prop where
  a : ¬ (FoOk N tree ∧ feas N t = true) → f = [] ∧ T = [] ∧ e = 1
  b : FoOk N tree → feas N t = true → ¬ MvA N tree out into → f = [] ∧ T = [] ∧ e = 4
  c : FoOk N tree → feas N t = true → MvA N tree out into → feas N (moveT N tree t out into) = false → f = [] ∧ T = [] ∧ e = 14
  d : FoOk N tree → feas N t = true → MvA N tree out into → feas N (moveT N tree t out into) = true → f = moveF N tree out into ∧ T = moveT N tree t out into ∧ e = 0
theorem MvR.uniq {N : Net} {tree t : List Int} {out into : Int} {f T f' T' : List Int} {e e' : Int} (h : MvR N tree t out into f T e) (k : MvR N tree t out into f' T' e') : f = f' ∧ T = T' ∧ e = e' := by
  by_cases h1 : FoOk N tree ∧ feas N t = true
  · by_cases h2 : MvA N tree out into
    · cases h3 : feas N (moveT N tree t out into) with
      | true => have x := h.d h1.1 h1.2 h2 h3; have y := k.d h1.1 h1.2 h2 h3; exact ⟨x.1.trans y.1.symm, x.2.1.trans y.2.1.symm, x.2.2.trans y.2.2.symm⟩
      | false => have x := h.c h1.1 h1.2 h2 h3; have y := k.c h1.1 h1.2 h2 h3; exact ⟨x.1.trans y.1.symm, x.2.1.trans y.2.1.symm, x.2.2.trans y.2.2.symm⟩
    · have x := h.b h1.1 h1.2 h2; have y := k.b h1.1 h1.2 h2; exact ⟨x.1.trans y.1.symm, x.2.1.trans y.2.1.symm, x.2.2.trans y.2.2.symm⟩
  · have x := h.a h1; have y := k.a h1; exact ⟨x.1.trans y.1.symm, x.2.1.trans y.2.1.symm, x.2.2.trans y.2.2.symm⟩
theorem MvR.len {N : Net} {tree t : List Int} {out into : Int} {f T : List Int} {e : Int} (h : MvR N tree t out into f T e) : f.length ≤ 512 ∧ T.length ≤ 512 := by
  by_cases h1 : FoOk N tree ∧ feas N t = true
  · have hok := h1.1.ok
    have hac := hok.ac
    have hev := hok.ev
    by_cases h2 : MvA N tree out into
    · cases h3 : feas N (moveT N tree t out into) with
      | true =>
        have x := h.d h1.1 h1.2 h2 h3
        have hg := (feas_iff.1 h1.2).1.len
        rw [x.1, x.2.1]
        refine ⟨?_, by unfold moveT; rw [shT_len]; omega⟩
        unfold moveF
        have := List.length_filter_le (fun i => decide (i = into ∨ (i ≠ out ∧ i ∈ tree))) ((List.range N.acts.length).map fun (i : Nat) => (i : Int))
        rw [List.length_map, List.length_range] at this; omega
      | false => have x := h.c h1.1 h1.2 h2 h3; rw [x.1, x.2.1]; simp
    · have x := h.b h1.1 h1.2 h2; rw [x.1, x.2.1]; simp
  · have x := h.a h1; rw [x.1, x.2.1]; simp
structure BsR (N : Net) (tree t : List Int) (o i : Int) (ok : Bool) (e : Int) : Prop where
  a : ¬ (FoOk N tree ∧ feas N t = true) → o = 0 ∧ i = 0 ∧ ok = false ∧ e = 1
  b : FoOk N tree → feas N t = true → o = (bestF N tree t).o ∧ i = (bestF N tree t).i ∧ ok = (bestF N tree t).ok ∧ e = 0
theorem BsR.uniq {N : Net} {tree t : List Int} {o i o' i' e e' : Int} {ok ok' : Bool} (h : BsR N tree t o i ok e) (k : BsR N tree t o' i' ok' e') : o = o' ∧ i = i' ∧ ok = ok' ∧ e = e' := by
  by_cases h1 : FoOk N tree ∧ feas N t = true
  · have x := h.b h1.1 h1.2; have y := k.b h1.1 h1.2; exact ⟨x.1.trans y.1.symm, x.2.1.trans y.2.1.symm, x.2.2.1.trans y.2.2.1.symm, x.2.2.2.trans y.2.2.2.symm⟩
  · have x := h.a h1; have y := k.a h1; exact ⟨x.1.trans y.1.symm, x.2.1.trans y.2.1.symm, x.2.2.1.trans y.2.2.1.symm, x.2.2.2.trans y.2.2.2.symm⟩
structure SmR (N : Net) (tree t : List Int) (B : Int) (f T : List Int) (m e : Int) : Prop where
  a : ¬ (FoOk N tree ∧ feas N t = true) → f = [] ∧ T = [] ∧ m = 0 ∧ e = 1
  b : FoOk N tree → feas N t = true → ¬ (0 ≤ B ∧ B ≤ 1048576) → f = [] ∧ T = [] ∧ m = 0 ∧ e = 4
  c : FoOk N tree → feas N t = true → 0 ≤ B ∧ B ≤ 1048576 → f = (smF N B.toNat tree t).1 ∧ T = (smF N B.toNat tree t).2.1 ∧ m = ((smF N B.toNat tree t).2.2 : Nat) ∧ e = 0
theorem SmR.uniq {N : Net} {tree t : List Int} {B : Int} {f T f' T' : List Int} {m e m' e' : Int} (h : SmR N tree t B f T m e) (k : SmR N tree t B f' T' m' e') : f = f' ∧ T = T' ∧ m = m' ∧ e = e' := by
  by_cases h1 : FoOk N tree ∧ feas N t = true
  · by_cases h2 : 0 ≤ B ∧ B ≤ 1048576
    · have x := h.c h1.1 h1.2 h2; have y := k.c h1.1 h1.2 h2; exact ⟨x.1.trans y.1.symm, x.2.1.trans y.2.1.symm, x.2.2.1.trans y.2.2.1.symm, x.2.2.2.trans y.2.2.2.symm⟩
    · have x := h.b h1.1 h1.2 h2; have y := k.b h1.1 h1.2 h2; exact ⟨x.1.trans y.1.symm, x.2.1.trans y.2.1.symm, x.2.2.1.trans y.2.2.1.symm, x.2.2.2.trans y.2.2.2.symm⟩
  · have x := h.a h1; have y := k.a h1; exact ⟨x.1.trans y.1.symm, x.2.1.trans y.2.1.symm, x.2.2.1.trans y.2.2.1.symm, x.2.2.2.trans y.2.2.2.symm⟩
def pfF (tree : List Int) (out into : Int) (k : Nat) : List Int := ((List.range k).map fun (i : Nat) => (i : Int)).filter fun i => decide (i = into ∨ (i ≠ out ∧ i ∈ tree))
theorem pfF_yes {tree : List Int} {out into : Int} {k : Nat} (h : (k : Int) = into ∨ ((k : Int) ≠ out ∧ (k : Int) ∈ tree)) : pfF tree out into (k + 1) = pfF tree out into k ++ [(k : Int)] := by
  unfold pfF; rw [List.range_succ, List.map_append, List.filter_append]
  simp [h]
theorem pfF_no {tree : List Int} {out into : Int} {k : Nat} (h : ¬ ((k : Int) = into ∨ ((k : Int) ≠ out ∧ (k : Int) ∈ tree))) : pfF tree out into (k + 1) = pfF tree out into k := by
  unfold pfF; rw [List.range_succ, List.map_append, List.filter_append]
  have : decide ((k : Int) = into ∨ ((k : Int) ≠ out ∧ (k : Int) ∈ tree)) = false := decide_eq_false h
  rw [List.map_cons, List.map_nil, List.filter_cons_of_neg (by rw [this]; decide), List.filter_nil, List.append_nil]
theorem pfF_len {tree : List Int} {out into : Int} {k : Nat} : (pfF tree out into k).length ≤ k := by
  have := List.length_filter_le (fun i => decide (i = into ∨ (i ≠ out ∧ i ∈ tree))) ((List.range k).map fun (i : Nat) => (i : Int))
  rw [List.length_map, List.length_range] at this; exact this
theorem smF_step {N : Net} {B mv : Nat} {tr t : List Int} (h : mv < B) (hk : (bestF N tr t).ok = true) : smF N (B - mv) tr t = ((smF N (B - (mv + 1)) (moveF N tr (bestF N tr t).o (bestF N tr t).i) (moveT N tr t (bestF N tr t).o (bestF N tr t).i)).1, (smF N (B - (mv + 1)) (moveF N tr (bestF N tr t).o (bestF N tr t).i) (moveT N tr t (bestF N tr t).o (bestF N tr t).i)).2.1, (smF N (B - (mv + 1)) (moveF N tr (bestF N tr t).o (bestF N tr t).i) (moveT N tr t (bestF N tr t).o (bestF N tr t).i)).2.2 + 1) := by
  rw [show B - mv = (B - (mv + 1)) + 1 by omega, smF, if_pos hk]
theorem smF_stop {N : Net} {B mv : Nat} {tr t : List Int} (hk : ¬ (bestF N tr t).ok = true) : smF N (B - mv) tr t = (tr, t, 0) := by
  cases hb : B - mv with
  | zero => rfl
  | succ b => rw [smF, if_neg hk]
theorem smF_zero {N : Net} {B mv : Nat} {tr t : List Int} (h : B ≤ mv) : smF N (B - mv) tr t = (tr, t, 0) := by
  rw [show B - mv = 0 by omega]; rfl

set_option maxHeartbeats 4000000 in
set_option maxRecDepth 100000 in
theorem ref13_Move_ok (N : Net) (A : NetA) (lo hi : Nat) (tree : List Int) (ar : Option Addr) (cr lr hr_ : Nat) (t : List Int) (at_ : Option Addr) (ct : Nat) (lt ht : Nat) (out into : Int) (w : World) (hN : NetIn lo hi w N A) (hTr : Ints lr hr_ w ar tree) (htn : (tree.length : Int) ≤ 9223372036854775807) (hT : Ints lt ht w at_ t) (hio : -9223372036854775808 ≤ into ∧ into ≤ 9223372036854775807) : Cal Try.prog 52 [netV N A, .slice ar tree.length cr, .slice at_ t.length ct, .int .i64 out, .int .i64 into] w (fun v w' => ∃ af cf f a1 c1 T e, v = .tuple #[.slice af f.length cf, .slice a1 T.length c1, .int .i64 e] ∧ Ints w.heap.size w'.heap.size w' af f ∧ Ints w.heap.size w'.heap.size w' a1 T ∧ MvR N tree t out into f T e ∧ Ext w w') := by
  replace hN := hN.full
  replace hTr := Ints.full hTr
  replace hT := Ints.full hT
  have hE : Out 0 0 w w := Out.refl _ _ w
  refine enter Try.func52 rfl Try.ntmps52 rfl ?_
  refine wp_seq ?_
  refine rg ?_
  refine sd (d_boxA rfl ?_)
  intro b5 w1 hbb5 hs3 ho2 hb5
  have hz4 := ho2.size
  replace hN := hN.ext ho2
  replace hTr := hTr.ext ho2
  replace hT := hT.ext ho2
  replace hE := hE.step ho2 (.inl (Nat.le_refl _))
  refine st (asS rfl) ?_
  refine st (asS rfl) ?_
  refine st (asI rfl) ?_
  refine rg_end ?_
  refine n_then ?_
  refine wp_seq ?_
  refine wp_seq ?_
  refine rg ?_
  refine st (y_lbN hb5 agg26 rfl) ?_
  refine st (mvS rfl) ?_
  refine sc cl22 (ref11_Forest_ok N A _ _ tree _ _ _ _ _ hN hTr htn) rfl ?_
  rintro v9 w5 ⟨b, rfl, hb, ho6⟩
  have hz10 := ho6.size
  replace hN := hN.ext ho6
  replace hTr := hTr.ext ho6
  replace hT := hT.ext ho6
  replace hE := hE.step ho6 (.inl (Nat.le_refl _))
  replace hb5 := hb5.ext ho6
  refine st (y_not rfl) ?_
  refine st (mvB rfl) ?_
  refine gspL 24 rfl (fun hg11 => ?_) (fun hg11 => ?_)
  ·
    have hg11n := hg11; try simp only [decide_eq_true_eq, decide_eq_false_iff_not, Bool.not_eq_true', Bool.not_eq_false', Bool.and_eq_true, Bool.or_eq_true, Bool.or_eq_false_iff, Bool.cond_true_right, Bool.cond_false_right, Bool.cond_true_left, Bool.cond_false_left, ne_eq, Decidable.not_not, bne_iff_ne, beq_iff_eq, beq_eq_false_iff_ne, Bool.not_true, Bool.not_false] at hg11n
    refine sts rfl rfl hg11 ?_
    refine sts rfl rfl hg11 ?_
    refine sts rfl rfl hg11 ?_
    refine sts rfl rfl hg11 ?_
    refine st (y_pickT rfl hg11 (v := .bool _) rfl) ?_
    refine rg_end ?_
    refine n_then ?_
    refine cnd rfl (fun hc0 => ?_) (fun hc0 => absurd hc0 (by decide))
    have hno : ¬ (FoOk N tree ∧ feas N t = true) := fun h => by
      have h1 := hb.2 h.1
      have h2 := h.2
      first
      | (rw [show b = false by assumption] at h1; cases h1)
      | (rw [show feas N t = false by assumption] at h2; cases h2)
    refine wp_seq ?_
    refine rg ?_
    refine st (asS rfl) ?_
    refine st (asS rfl) ?_
    refine st (asI rfl) ?_
    refine rg_end ?_
    refine n_then ?_
    refine wp_ret ?_
    refine r_then (ret3 (v := (.slice _ _ _)) (v' := (.slice _ _ _)) (v'' := (.int .i64 _)) Try.results52 rfl rfl rfl ?_)
    exact ⟨none, 0, [], none, 0, [], 1, rfl, nilS0, nilS0, ⟨fun _ => ⟨rfl, rfl, rfl⟩, fun h1 h2 => absurd ⟨h1, h2⟩ hno, fun h1 h2 => absurd ⟨h1, h2⟩ hno, fun h1 h2 => absurd ⟨h1, h2⟩ hno⟩, hE⟩
  ·
    have hg11n := hg11; try simp only [decide_eq_true_eq, decide_eq_false_iff_not, Bool.not_eq_true', Bool.not_eq_false', Bool.and_eq_true, Bool.or_eq_true, Bool.or_eq_false_iff, Bool.cond_true_right, Bool.cond_false_right, Bool.cond_true_left, Bool.cond_false_left, ne_eq, Decidable.not_not, bne_iff_ne, beq_iff_eq, beq_eq_false_iff_ne, Bool.not_true, Bool.not_false] at hg11n
    refine stg rfl rfl hg11 (y_lbN hb5 agg26 rfl) ?_
    refine stg rfl rfl hg11 (mvS rfl) ?_
    refine scg rfl rfl hg11 cl23 (ref11_Feasible_ok N A _ _ t _ _ _ _ _ hN hT) rfl ?_
    rintro v16 w12 ⟨rfl, ho13⟩
    have hz17 := ho13.size
    replace hN := hN.ext ho13
    replace hTr := hTr.ext ho13
    replace hT := hT.ext ho13
    replace hE := hE.step ho13 (.inl (Nat.le_refl _))
    replace hb5 := hb5.ext ho13
    refine stg rfl rfl hg11 (y_not rfl) ?_
    refine st (y_pickF rfl hg11 (v := .bool _) rfl) ?_
    refine rg_end ?_
    refine n_then ?_
    refine cnd rfl (fun hc0 => ?_) (fun hc0 => ?_)
    ·
      try simp only [decide_eq_true_eq, decide_eq_false_iff_not, Bool.not_eq_true', Bool.not_eq_false', Bool.and_eq_true, Bool.or_eq_true, Bool.or_eq_false_iff, Bool.cond_true_right, Bool.cond_false_right, Bool.cond_true_left, Bool.cond_false_left, ne_eq, Decidable.not_not, bne_iff_ne, beq_iff_eq, beq_eq_false_iff_ne, Bool.not_true, Bool.not_false] at hc0
      have hno : ¬ (FoOk N tree ∧ feas N t = true) := fun h => by
        have h1 := hb.2 h.1
        have h2 := h.2
        first
        | (rw [show b = false by assumption] at h1; cases h1)
        | (rw [show feas N t = false by assumption] at h2; cases h2)
      refine wp_seq ?_
      refine rg ?_
      refine st (asS rfl) ?_
      refine st (asS rfl) ?_
      refine st (asI rfl) ?_
      refine rg_end ?_
      refine n_then ?_
      refine wp_ret ?_
      refine r_then (ret3 (v := (.slice _ _ _)) (v' := (.slice _ _ _)) (v'' := (.int .i64 _)) Try.results52 rfl rfl rfl ?_)
      exact ⟨none, 0, [], none, 0, [], 1, rfl, nilS0, nilS0, ⟨fun _ => ⟨rfl, rfl, rfl⟩, fun h1 h2 => absurd ⟨h1, h2⟩ hno, fun h1 h2 => absurd ⟨h1, h2⟩ hno, fun h1 h2 => absurd ⟨h1, h2⟩ hno⟩, hE⟩
    ·
      try simp only [decide_eq_true_eq, decide_eq_false_iff_not, Bool.not_eq_true', Bool.not_eq_false', Bool.and_eq_true, Bool.or_eq_true, Bool.or_eq_false_iff, Bool.cond_true_right, Bool.cond_false_right, Bool.cond_true_left, Bool.cond_false_left, ne_eq, Decidable.not_not, bne_iff_ne, beq_iff_eq, beq_eq_false_iff_ne, Bool.not_true, Bool.not_false] at hc0
      have hbt : b = true := by assumption
      have hfo := hb.1 hbt
      have hok := hfo.ok
      have hac := hok.ac
      have hev := hok.ev
      have hp2 := hok.p2
      have hp7 := hok.p7
      have hg := (feas_iff.1 hc0).1
      have htl := hg.len
      have hmem := hfo.mem
      refine wp_skip ?_
      refine n_then ?_
      refine wp_seq ?_
      refine wp_seq ?_
      refine rg ?_
      refine st (mvS rfl) ?_
      refine st (mvI rfl) ?_
      refine sc cl67 (ref13_has_ok tree _ _ _ _ out _ hTr htn) rfl ?_
      rintro v22 w18 ⟨rfl, ho19⟩
      have hz23 := ho19.size
      replace hN := hN.ext ho19
      replace hTr := hTr.ext ho19
      replace hT := hT.ext ho19
      replace hE := hE.step ho19 (.inl (Nat.le_refl _))
      replace hb5 := hb5.ext ho19
      refine st (y_not rfl) ?_
      refine st (mvB rfl) ?_
      refine gspL 34 rfl (fun hg24 => ?_) (fun hg24 => ?_)
      ·
        have hg24n := hg24; try simp only [decide_eq_true_eq, decide_eq_false_iff_not, Bool.not_eq_true', Bool.not_eq_false', Bool.and_eq_true, Bool.or_eq_true, Bool.or_eq_false_iff, Bool.cond_true_right, Bool.cond_false_right, Bool.cond_true_left, Bool.cond_false_left, ne_eq, Decidable.not_not, bne_iff_ne, beq_iff_eq, beq_eq_false_iff_ne, Bool.not_true, Bool.not_false] at hg24n
        refine sts rfl rfl hg24 ?_
        refine sts rfl rfl hg24 ?_
        refine sts rfl rfl hg24 ?_
        refine sts rfl rfl hg24 ?_
        refine sts rfl rfl hg24 ?_
        refine sts rfl rfl hg24 ?_
        refine sts rfl rfl hg24 ?_
        refine st (y_pickT rfl hg24 (v := .bool _) rfl) ?_
        refine st (mvB rfl) ?_
        refine sts rfl rfl rfl ?_
        refine sts rfl rfl rfl ?_
        refine sts rfl rfl rfl ?_
        refine st (y_pickT rfl rfl (v := .bool _) rfl) ?_
        refine rg_end ?_
        refine n_then ?_
        refine cnd rfl (fun hc1 => ?_) (fun hc1 => absurd hc1 (by decide))
        have hnm : ¬ MvA N tree out into := fun h => by
          have h1 := h.hm
          have h2 := h.i0
          have h4 := h.i1
          have h3 := h.ne
          first
          | exact absurd h1 (by assumption)
          | omega
        refine wp_seq ?_
        refine rg ?_
        refine st (asS rfl) ?_
        refine st (asS rfl) ?_
        refine st (asI rfl) ?_
        refine rg_end ?_
        refine n_then ?_
        refine wp_ret ?_
        refine r_then (ret3 (v := (.slice _ _ _)) (v' := (.slice _ _ _)) (v'' := (.int .i64 _)) Try.results52 rfl rfl rfl ?_)
        exact ⟨none, 0, [], none, 0, [], 4, rfl, nilS0, nilS0, ⟨fun h => absurd ⟨hfo, hc0⟩ h, fun _ _ _ => ⟨rfl, rfl, rfl⟩, fun _ _ h => absurd h hnm, fun _ _ h => absurd h hnm⟩, hE⟩
      ·
        have hg24n := hg24; try simp only [decide_eq_true_eq, decide_eq_false_iff_not, Bool.not_eq_true', Bool.not_eq_false', Bool.and_eq_true, Bool.or_eq_true, Bool.or_eq_false_iff, Bool.cond_true_right, Bool.cond_false_right, Bool.cond_true_left, Bool.cond_false_left, ne_eq, Decidable.not_not, bne_iff_ne, beq_iff_eq, beq_eq_false_iff_ne, Bool.not_true, Bool.not_false] at hg24n
        refine stg rfl rfl hg24 (mvI rfl) ?_
        refine stg rfl rfl hg24 (y_fld fld26_2 rfl) ?_
        refine stg rfl rfl hg24 (y_lb hb5 na24 rfl rfl) ?_
        refine stg rfl rfl hg24 (y_len Try.underlying24 rfl) ?_
        refine stg rfl rfl hg24 (y_sub rfl rfl (by omega)) ?_
        refine scg rfl rfl hg24 cl69 (ref13_in_ok _ _ _ _) rfl ?_
        rintro v29 w25 ⟨rfl, ho26⟩
        have hz30 := ho26.size
        replace hN := hN.ext ho26
        replace hTr := hTr.ext ho26
        replace hT := hT.ext ho26
        replace hE := hE.step ho26 (.inl (Nat.le_refl _))
        replace hb5 := hb5.ext ho26
        refine stg rfl rfl hg24 (y_not rfl) ?_
        refine st (y_pickF rfl hg24 (v := .bool _) rfl) ?_
        refine st (mvB rfl) ?_
        refine gspL 43 rfl (fun hg31 => ?_) (fun hg31 => ?_)
        ·
          have hg31n := hg31; try simp only [decide_eq_true_eq, decide_eq_false_iff_not, Bool.not_eq_true', Bool.not_eq_false', Bool.and_eq_true, Bool.or_eq_true, Bool.or_eq_false_iff, Bool.cond_true_right, Bool.cond_false_right, Bool.cond_true_left, Bool.cond_false_left, ne_eq, Decidable.not_not, bne_iff_ne, beq_iff_eq, beq_eq_false_iff_ne, Bool.not_true, Bool.not_false] at hg31n
          refine sts rfl rfl hg31 ?_
          refine sts rfl rfl hg31 ?_
          refine sts rfl rfl hg31 ?_
          refine st (y_pickT rfl hg31 (v := .bool _) rfl) ?_
          refine rg_end ?_
          refine n_then ?_
          refine cnd rfl (fun hc1 => ?_) (fun hc1 => absurd hc1 (by decide))
          have hnm : ¬ MvA N tree out into := fun h => by
            have h1 := h.hm
            have h2 := h.i0
            have h4 := h.i1
            have h3 := h.ne
            first
            | exact absurd h1 (by assumption)
            | omega
          refine wp_seq ?_
          refine rg ?_
          refine st (asS rfl) ?_
          refine st (asS rfl) ?_
          refine st (asI rfl) ?_
          refine rg_end ?_
          refine n_then ?_
          refine wp_ret ?_
          refine r_then (ret3 (v := (.slice _ _ _)) (v' := (.slice _ _ _)) (v'' := (.int .i64 _)) Try.results52 rfl rfl rfl ?_)
          exact ⟨none, 0, [], none, 0, [], 4, rfl, nilS0, nilS0, ⟨fun h => absurd ⟨hfo, hc0⟩ h, fun _ _ _ => ⟨rfl, rfl, rfl⟩, fun _ _ h => absurd h hnm, fun _ _ h => absurd h hnm⟩, hE⟩
        ·
          have hg31n := hg31; try simp only [decide_eq_true_eq, decide_eq_false_iff_not, Bool.not_eq_true', Bool.not_eq_false', Bool.and_eq_true, Bool.or_eq_true, Bool.or_eq_false_iff, Bool.cond_true_right, Bool.cond_false_right, Bool.cond_true_left, Bool.cond_false_left, ne_eq, Decidable.not_not, bne_iff_ne, beq_iff_eq, beq_eq_false_iff_ne, Bool.not_true, Bool.not_false] at hg31n
          refine stg rfl rfl hg31 (mvI rfl) ?_
          refine stg rfl rfl hg31 (mvI rfl) ?_
          refine stg rfl rfl hg31 (y_eql rfl rfl) ?_
          refine st (y_pickF rfl hg31 (v := .bool _) rfl) ?_
          refine rg_end ?_
          refine n_then ?_
          refine cnd rfl (fun hc1 => ?_) (fun hc1 => ?_)
          ·
            try simp only [decide_eq_true_eq, decide_eq_false_iff_not, Bool.not_eq_true', Bool.not_eq_false', Bool.and_eq_true, Bool.or_eq_true, Bool.or_eq_false_iff, Bool.cond_true_right, Bool.cond_false_right, Bool.cond_true_left, Bool.cond_false_left, ne_eq, Decidable.not_not, bne_iff_ne, beq_iff_eq, beq_eq_false_iff_ne, Bool.not_true, Bool.not_false] at hc1
            have hnm : ¬ MvA N tree out into := fun h => by
              have h1 := h.hm
              have h2 := h.i0
              have h4 := h.i1
              have h3 := h.ne
              first
              | exact absurd h1 (by assumption)
              | omega
            refine wp_seq ?_
            refine rg ?_
            refine st (asS rfl) ?_
            refine st (asS rfl) ?_
            refine st (asI rfl) ?_
            refine rg_end ?_
            refine n_then ?_
            refine wp_ret ?_
            refine r_then (ret3 (v := (.slice _ _ _)) (v' := (.slice _ _ _)) (v'' := (.int .i64 _)) Try.results52 rfl rfl rfl ?_)
            exact ⟨none, 0, [], none, 0, [], 4, rfl, nilS0, nilS0, ⟨fun h => absurd ⟨hfo, hc0⟩ h, fun _ _ _ => ⟨rfl, rfl, rfl⟩, fun _ _ h => absurd h hnm, fun _ _ h => absurd h hnm⟩, hE⟩
          ·
            try simp only [decide_eq_true_eq, decide_eq_false_iff_not, Bool.not_eq_true', Bool.not_eq_false', Bool.and_eq_true, Bool.or_eq_true, Bool.or_eq_false_iff, Bool.cond_true_right, Bool.cond_false_right, Bool.cond_true_left, Bool.cond_false_left, ne_eq, Decidable.not_not, bne_iff_ne, beq_iff_eq, beq_eq_false_iff_ne, Bool.not_true, Bool.not_false] at hc1
            have hmm : out ∈ tree := by assumption
            have hir : 0 ≤ into ∧ into < N.acts.length := by omega
            have hio2 : into ≠ out := by omega
            have hor := hmem out hmm
            have ha := hok.acs _ (el_mem hir.1 hir.2)
            have b1 := hg.rng _ (el_mem (l := t) ha.t0 (by rw [hg.len]; exact ha.t1))
            have b2 := hg.rng _ (el_mem (l := t) ha.f0 (by rw [hg.len]; exact ha.f1))
            have hsr := slk_rng (N := N) (t := t) (a := (el N.acts into)) hp2
            have hdu := dur_slk N t (el N.acts into)
            have hmn0 := ha.m0
            have hmn1 := ha.m1
            have hmn2 := ha.m2
            have hsl := sdL_len (N := N) (tree := tree) (arc := out)
            have hcs := cutL_sd (N := N) (tree := tree) (arc := out) (hok.acs _ (el_mem hor.1 hor.2)) (fun t ht => hok.acs _ (el_mem (hmem t ht).1 (hmem t ht).2))
            refine wp_skip ?_
            refine n_then ?_
            refine wp_seq ?_
            refine rg ?_
            refine st (y_lbN hb5 agg26 rfl) ?_
            refine st (mvS rfl) ?_
            refine st (mvI rfl) ?_
            refine sc cl68 (ref13_cut_ok N A _ _ tree _ _ _ _ out _ hN hTr htn hok hmem hor.1 hor.2) rfl ?_
            rintro v36 w32 ⟨am, cm, rfl, hm, hml, ho33⟩
            rw [hcs] at hm
            have hz37 := ho33.size
            replace hN := hN.ext ho33
            replace hTr := hTr.ext ho33
            replace hT := hT.ext ho33
            replace hE := hE.step ho33 (.inl (Nat.le_refl _))
            replace hb5 := hb5.ext ho33
            refine st (asS rfl) ?_
            refine rg_end ?_
            refine n_then ?_
            refine wp_seq ?_
            refine rg ?_
            refine st (y_fld fld26_2 rfl) ?_
            refine st (y_lb hb5 na24 rfl rfl) ?_
            refine st (mvI rfl) ?_
            refine st (y_ix hN.a sl24 rfl (rfl) rfl (by omega) (by omega)) ?_
            refine st (y_lw hN.a agg36 rfl (by omega) (by omega)) ?_
            refine sd (d_allocA zer36 ?_)
            intro b14 w38 hbb14 hs40 ho39 hb14
            have hz41 := ho39.size
            replace hN := hN.ext ho39
            replace hTr := hTr.ext ho39
            replace hT := hT.ext ho39
            replace hE := hE.step ho39 (.inl (Nat.le_refl _))
            replace hb5 := hb5.ext ho39
            replace hm := hm.ext ho39
            refine sd0 (d_stN hb14 rfl rfl sz36 rfl rfl ?_)
            intro w42 hs44 ho43 hb14'
            clear hb14; have hb14 := hb14'; clear hb14'
            have hz45 := ho43.size
            replace hN := hN.out ho43 (by first | omega | (simp only [blk_some, hi1_some] at *; omega))
            replace hTr := hTr.out ho43 (by first | omega | (simp only [blk_some, hi1_some] at *; omega))
            replace hT := hT.out ho43 (by first | omega | (simp only [blk_some, hi1_some] at *; omega))
            replace hE := hE.step ho43 (by first | omega | (simp only [blk_some, hi1_some] at *; omega))
            replace hb5 := hb5.out ho43 (by first | omega | (simp only [blk_some, hi1_some] at *; omega))
            replace hm := hm.out ho43 (by first | omega | (simp only [blk_some, hi1_some] at *; omega))
            refine rg_end ?_
            refine n_then ?_
            refine wp_seq ?_
            refine wp_seq ?_
            refine rgD 10 (fun w_ => Ext w42 w_) (fun i => false) mixed (by kernel_rfl) ?_
            intro w46 ho47 hs48
            refine ⟨ho47, ?_⟩
            have hx49 := ho47
            refine tn rfl (fun _ hG => mvS rfl) ?_
            refine tn rfl (fun _ hG => y_fld fld36_1 rfl) ?_
            refine tn rfl (fun _ hG => y_lb (hb14.ext hG) na3 rfl rfl) ?_
            refine tn rfl (fun _ hG => y_ix (hm.ext hG) sl31 rfl (hsl.symm) rfl (ha.f0) (by have := ha.f1; omega)) ?_
            refine tn rfl (fun _ hG => y_le (hm.ext hG) na4 rfl (ha.f0) (by have := ha.f1; omega) rfl) ?_
            refine tn rfl (fun _ hG => mvS rfl) ?_
            refine tn rfl (fun _ hG => y_fld fld36_2 rfl) ?_
            refine tn rfl (fun _ hG => y_lb (hb14.ext hG) na3 rfl rfl) ?_
            refine tn rfl (fun _ hG => y_ix (hm.ext hG) sl31 rfl (hsl.symm) rfl (ha.t0) (by have := ha.t1; omega)) ?_
            refine tn rfl (fun _ hG => y_le (hm.ext hG) na4 rfl (ha.t0) (by have := ha.t1; omega) rfl) ?_
            refine t_end ?_
            have hz50 := hx49.size
            replace hN := hN.ext hx49
            replace hTr := hTr.ext hx49
            replace hT := hT.ext hx49
            replace hE := hE.step hx49 (.inl (Nat.le_refl _))
            replace hb5 := hb5.ext hx49
            replace hm := hm.ext hx49
            replace hb14 := hb14.ext hx49
            refine st (y_eqlB rfl rfl Try.underlying4) ?_
            refine rg_end ?_
            refine n_then ?_
            refine cnd rfl (fun hc2 => ?_) (fun hc2 => ?_)
            ·
              try simp only [decide_eq_true_eq, decide_eq_false_iff_not, Bool.not_eq_true', Bool.not_eq_false', Bool.and_eq_true, Bool.or_eq_true, Bool.or_eq_false_iff, Bool.cond_true_right, Bool.cond_false_right, Bool.cond_true_left, Bool.cond_false_left, ne_eq, Decidable.not_not, bne_iff_ne, beq_iff_eq, beq_eq_false_iff_ne, Bool.not_true, Bool.not_false] at hc2
              have hnm : ¬ MvA N tree out into := fun h => by
                have h1 := h.xs
                unfold xsB at h1
                rw [show el (sdL N tree out) (el N.acts into).fr = el (sdL N tree out) (el N.acts into).tt by simpa using hc2] at h1
                simp at h1
              refine wp_seq ?_
              refine rg ?_
              refine st (asS rfl) ?_
              refine st (asS rfl) ?_
              refine st (asI rfl) ?_
              refine rg_end ?_
              refine n_then ?_
              refine wp_ret ?_
              refine r_then (ret3 (v := (.slice _ _ _)) (v' := (.slice _ _ _)) (v'' := (.int .i64 _)) Try.results52 rfl rfl rfl ?_)
              exact ⟨none, 0, [], none, 0, [], 4, rfl, nilS0, nilS0, ⟨fun h => absurd ⟨hfo, hc0⟩ h, fun _ _ _ => ⟨rfl, rfl, rfl⟩, fun _ _ h => absurd h hnm, fun _ _ h => absurd h hnm⟩, hE⟩
            ·
              try simp only [decide_eq_true_eq, decide_eq_false_iff_not, Bool.not_eq_true', Bool.not_eq_false', Bool.and_eq_true, Bool.or_eq_true, Bool.or_eq_false_iff, Bool.cond_true_right, Bool.cond_false_right, Bool.cond_true_left, Bool.cond_false_left, ne_eq, Decidable.not_not, bne_iff_ne, beq_iff_eq, beq_eq_false_iff_ne, Bool.not_true, Bool.not_false] at hc2
              have hxne : el (sdL N tree out) (el N.acts into).fr ≠ el (sdL N tree out) (el N.acts into).tt := by simpa using hc2
              have hma : MvA N tree out into := ⟨hmm, hir.1, hir.2, hio2, by unfold xsB; simpa using hxne⟩
              refine wp_skip ?_
              refine n_then ?_
              refine wp_seq ?_
              refine rgD 6 (fun w_ => Ext w46 w_) (fun i => Nat.beq i 3) mixed (by kernel_rfl) ?_
              intro w51 ho52 hs53
              refine ⟨ho52, ?_⟩
              have hx54 := ho52
              refine tn rfl (fun _ hG => y_lbN (hb5.ext hG) agg26 rfl) ?_
              refine tn rfl (fun _ hG => mvS rfl) ?_
              refine tn rfl (fun _ hG => y_lbN (hb14.ext hG) agg36 rfl) ?_
              refine tc rfl cl48 (ref11_Lasts_ok N A _ _ t _ _ _ _ (el N.acts into) _ (hN.ext hx54) (hT.ext hx54) hg ha) rfl ?_
              rintro v59 w55 ⟨rfl, ho56⟩
              have hx60 := hx54.step ho56 (.inl (Nat.le_refl _))
              have hz61 := ho56.size
              refine ⟨hx60, ?_⟩
              refine tn rfl (fun _ hG => y_fld fld36_3 rfl) ?_
              refine tn rfl (fun _ hG => y_lb (hb14.ext hG) na3 rfl rfl) ?_
              refine t_end ?_
              have hz62 := hx60.size
              replace hN := hN.ext hx60
              replace hTr := hTr.ext hx60
              replace hT := hT.ext hx60
              replace hE := hE.step hx60 (.inl (Nat.le_refl _))
              replace hb5 := hb5.ext hx60
              replace hm := hm.ext hx60
              replace hb14 := hb14.ext hx60
              refine st (y_sub rfl rfl (by omega)) ?_
              refine st (asI rfl) ?_
              refine rg_end ?_
              refine n_then ?_
              refine wp_seq ?_
              refine wp_seq ?_
              refine rg ?_
              refine st (mvS rfl) ?_
              refine st (y_fld fld36_2 rfl) ?_
              refine st (y_lb hb14 na3 rfl rfl) ?_
              refine st (y_ix hm sl31 rfl (hsl.symm) rfl (ha.t0) (by have := ha.t1; omega)) ?_
              refine st (y_le hm na4 rfl (ha.t0) (by have := ha.t1; omega) rfl) ?_
              refine rg_end ?_
              refine n_then ?_
              refine cnd rfl (fun hc3 => ?_) (fun hc3 => ?_)
              ·
                try simp only [decide_eq_true_eq, decide_eq_false_iff_not, Bool.not_eq_true', Bool.not_eq_false', Bool.and_eq_true, Bool.or_eq_true, Bool.or_eq_false_iff, Bool.cond_true_right, Bool.cond_false_right, Bool.cond_true_left, Bool.cond_false_left, ne_eq, Decidable.not_not, bne_iff_ne, beq_iff_eq, beq_eq_false_iff_ne, Bool.not_true, Bool.not_false] at hc3
                have hdd : moveD N tree t out into = -(durA N t (el N.acts into) - (el N.acts into).mn) := by
                  unfold moveD
                  rw [if_neg (fun h => hxne (h.trans hc3.symm)), hdu]
                  omega
                refine rg ?_
                refine st (mvI rfl) ?_
                refine st (y_neg rfl (by omega)) ?_
                refine st (asI rfl) ?_
                refine rg_end ?_
                refine n_then ?_
                refine wp_seq ?_
                refine rg ?_
                refine st (mvS rfl) ?_
                obtain ⟨zc_, hzc_⟩ : ∃ z, z = w55.heap.size := ⟨_, rfl⟩
                have hC := Ow.nil (E := 3) (sz := 1) (enc := encI) (lo := zc_) (hi := 0) (w := w55) (fun _ => rfl)
                have hrhC := hC.rng
                refine sd (d_appN (xs := t) hC sl22 infoz3 (by decide) rfl rfl rfl (rfl) (hT) (fun _ => rfl) (by simp; unfold maxLen; omega) (by simp; omega) (by omega) (by omega) ?_)
                intro a16 c16 w63 ho64 hC'
                have hs65 := ho64.size
                clear hC; have hC := hC'; clear hC'
                have hz68 := ho64.size
                replace hN := hN.out ho64 (by first | omega | (simp only [blk_some, hi1_some] at *; omega))
                replace hTr := hTr.out ho64 (by first | omega | (simp only [blk_some, hi1_some] at *; omega))
                replace hT := hT.out ho64 (by first | omega | (simp only [blk_some, hi1_some] at *; omega))
                replace hE := hE.step ho64 (by first | omega | (simp only [blk_some, hi1_some] at *; omega))
                replace hb5 := hb5.out ho64 (by first | omega | (simp only [blk_some, hi1_some] at *; omega))
                replace hm := hm.out ho64 (by first | omega | (simp only [blk_some, hi1_some] at *; omega))
                replace hb14 := hb14.out ho64 (by first | omega | (simp only [blk_some, hi1_some] at *; omega))
                simp only [List.nil_append] at hC ⊢
                have hCr := hC.rng
                obtain ⟨z6, hz6⟩ : ∃ z, z = w63.heap.size := ⟨_, rfl⟩
                refine st (asS rfl) ?_
                refine rg_end ?_
                refine n_then ?_
                refine wp_seq ?_
                refine wp_seq ?_
                refine rg ?_
                refine st (mvS rfl) ?_
                refine st (y_len Try.underlying22 rfl) ?_
                refine st (mvI rfl) ?_
                refine rg_end ?_
                refine n_then ?_
                refine wp_block ?_
                refine lp (γ := Nat × List Int) [17, 86, 87, 88, 89, 90, 91, 92, 93, 94, 95, 96, 97, 98, 99, 100, 101, 102, 103, 104, 105] (fun ⟨k, T⟩ => [(86, .int .i64 (k : Int))]) (fun ⟨k, T⟩ w_ => Out (blk a16) (hi1 a16) w63 w_ ∧ (k : Int) ≤ t.length ∧ T.length = t.length ∧ (∀ q : Nat, q < k → el T (q : Int) = if el (sdL N tree out) (q : Int) = true then (el t (q : Int) + moveD N tree t out into) % N.p else el t (q : Int)) ∧ (∀ q : Nat, k ≤ q → q < t.length → el T (q : Int) = el t (q : Int)) ∧ Ow 3 encI 1 zc_ z6 w_ a16 c16 T) (fun ⟨k, T⟩ => t.length - k) (0, t) ⟨rfl, trivial⟩ ⟨Out.refl _ _ _, by omega, rfl, (fun q hq => by omega), (fun q _ _ => rfl), hC.wide (by omega)⟩ ?_
                rintro ⟨k, T⟩ hav_ w69 ⟨ho70, hk_, hTl, hlt, hge, hC⟩
                have hlp0 := ho70
                have hz71 := ho70.size
                replace hN := hN.out ho70 (by first | omega | (simp only [blk_some, hi1_some] at *; omega))
                replace hTr := hTr.out ho70 (by first | omega | (simp only [blk_some, hi1_some] at *; omega))
                replace hT := hT.out ho70 (by first | omega | (simp only [blk_some, hi1_some] at *; omega))
                replace hE := hE.step ho70 (by first | omega | (simp only [blk_some, hi1_some] at *; omega))
                replace hb5 := hb5.out ho70 (by first | omega | (simp only [blk_some, hi1_some] at *; omega))
                replace hm := hm.out ho70 (by first | omega | (simp only [blk_some, hi1_some] at *; omega))
                replace hb14 := hb14.out ho70 (by first | omega | (simp only [blk_some, hi1_some] at *; omega))
                refine wp_seq ?_
                refine rg ?_
                refine st (y_lss rfl rfl) ?_
                refine rg_end ?_
                refine n_then ?_
                refine wp_seq ?_
                refine cnd rfl (fun hc4 => ?_) (fun hc4 => ?_)
                ·
                  try simp only [decide_eq_true_eq, decide_eq_false_iff_not, Bool.not_eq_true', Bool.not_eq_false', Bool.and_eq_true, Bool.or_eq_true, Bool.or_eq_false_iff, Bool.cond_true_right, Bool.cond_false_right, Bool.cond_true_left, Bool.cond_false_left, ne_eq, Decidable.not_not, bne_iff_ne, beq_iff_eq, beq_eq_false_iff_ne, Bool.not_true, Bool.not_false] at hc4
                  have hk2 := hge k (Nat.le_refl _) (by omega)
                  have b3 := hg.rng _ (el_mem (l := t) (i := (k : Int)) (by omega) (by omega))
                  refine wp_skip ?_
                  refine n_then ?_
                  refine wp_seq ?_
                  refine wp_block ?_
                  refine wp_seq ?_
                  refine rg ?_
                  refine st (mvI rfl) ?_
                  refine st (asI rfl) ?_
                  refine rg_end ?_
                  refine n_then ?_
                  refine wp_seq ?_
                  refine rg ?_
                  refine st (mvS rfl) ?_
                  refine st (mvI rfl) ?_
                  refine st (y_ix hm sl31 rfl (hsl.symm) rfl (by omega) (by omega)) ?_
                  refine st (y_le hm na4 rfl (by omega) (by omega) rfl) ?_
                  refine rg_end ?_
                  refine n_then ?_
                  refine cnd rfl (fun hc5 => ?_) (fun hc5 => ?_)
                  ·
                    try simp only [decide_eq_true_eq, decide_eq_false_iff_not, Bool.not_eq_true', Bool.not_eq_false', Bool.and_eq_true, Bool.or_eq_true, Bool.or_eq_false_iff, Bool.cond_true_right, Bool.cond_false_right, Bool.cond_true_left, Bool.cond_false_left, ne_eq, Decidable.not_not, bne_iff_ne, beq_iff_eq, beq_eq_false_iff_ne, Bool.not_true, Bool.not_false] at hc5
                    have hv : (if el (sdL N tree out) (k : Int) = true then (el t (k : Int) + moveD N tree t out into) % N.p else el t (k : Int)) = (el t (k : Int) + moveD N tree t out into) % N.p := if_pos hc5
                    refine rgD 11 (fun w_ => Ext w69 w_) (fun i => Nat.beq i 10) mixed (by kernel_rfl) ?_
                    intro w72 ho73 hs74
                    refine ⟨ho73, ?_⟩
                    have hx75 := ho73
                    refine tn rfl (fun _ hG => mvS rfl) ?_
                    refine tn rfl (fun _ hG => mvI rfl) ?_
                    refine tn rfl (fun _ hG => mvS rfl) ?_
                    refine tn rfl (fun _ hG => mvI rfl) ?_
                    refine tn rfl (fun _ hG => y_ix (hC.ext hG).sl sl22 rfl (hTl.symm) rfl (by omega) (by omega)) ?_
                    refine tn rfl (fun _ hG => y_le (hC.ext hG).sl na3 rfl (by omega) (by omega) rfl) ?_
                    refine tn rfl (fun _ hG => mvI rfl) ?_
                    refine tn rfl (fun _ hG => y_add rfl rfl (by rw [hk2]; omega)) ?_
                    refine tn rfl (fun _ hG => y_fld fld26_0 rfl) ?_
                    refine tn rfl (fun _ hG => y_lb (hb5.ext hG) na3 rfl rfl) ?_
                    refine tc rfl cl65 (ref1_Mod_ok _ _ _ (by rw [hk2]; omega) (by omega) (by omega)) rfl ?_
                    rintro v80 w76 ⟨rfl, ho77⟩
                    rw [hk2, ← hdd]
                    have hx81 := hx75.step ho77 (.inl (Nat.le_refl _))
                    have hz82 := ho77.size
                    refine ⟨hx81, ?_⟩
                    refine t_end ?_
                    have hz83 := hx81.size
                    replace hN := hN.ext hx81
                    replace hTr := hTr.ext hx81
                    replace hT := hT.ext hx81
                    replace hE := hE.step hx81 (.inl (Nat.le_refl _))
                    replace hb5 := hb5.ext hx81
                    replace hm := hm.ext hx81
                    replace hb14 := hb14.ext hx81
                    replace hC := hC.ext hx81
                    replace hlp0 := hlp0.step hx81 (.inl (Nat.le_refl _))
                    refine st (y_ix hC.sl sl22 rfl (hTl.symm) rfl (by omega) (by omega)) ?_
                    refine sd0 (d_se (j := 0) (e' := ((el t (k : Int) + moveD N tree t out into) % N.p)) hC sz3 rfl rfl rfl (by omega) (by omega) (Nat.le_of_ble_eq_true rfl) rfl ?_)
                    intro w84 hs86 ho85 hC'
                    have hrhC := hC.rng
                    clear hC; have hC := hC'; clear hC'
                    have hz87 := ho85.size
                    replace hN := hN.out ho85 (by first | omega | (simp only [blk_some, hi1_some] at *; omega))
                    replace hTr := hTr.out ho85 (by first | omega | (simp only [blk_some, hi1_some] at *; omega))
                    replace hT := hT.out ho85 (by first | omega | (simp only [blk_some, hi1_some] at *; omega))
                    replace hE := hE.step ho85 (by first | omega | (simp only [blk_some, hi1_some] at *; omega))
                    replace hb5 := hb5.out ho85 (by first | omega | (simp only [blk_some, hi1_some] at *; omega))
                    replace hm := hm.out ho85 (by first | omega | (simp only [blk_some, hi1_some] at *; omega))
                    replace hb14 := hb14.out ho85 (by first | omega | (simp only [blk_some, hi1_some] at *; omega))
                    replace hlp0 := hlp0.step ho85 (by first | omega | (simp only [blk_some, hi1_some] at *; omega))
                    have hlt1 : ∀ q : Nat, q < k + 1 → el (T.set (k : Int).toNat ((el t (k : Int) + moveD N tree t out into) % N.p)) (q : Int) = if el (sdL N tree out) (q : Int) = true then (el t (q : Int) + moveD N tree t out into) % N.p else el t (q : Int) := fun q hq => by
                      by_cases e : q = k
                      · subst e; rw [elSetS (by omega) (by omega), hv]
                      · rw [elSetN (by omega) (by omega) (by omega)]; exact hlt q (by omega)
                    have hge1 : ∀ q : Nat, k + 1 ≤ q → q < t.length → el (T.set (k : Int).toNat ((el t (k : Int) + moveD N tree t out into) % N.p)) (q : Int) = el t (q : Int) := fun q h1 h2 => by
                      rw [elSetN (by omega) (by omega) (by omega)]; exact hge q (by omega) h2
                    have hTl1 : (T.set (k : Int).toNat ((el t (k : Int) + moveD N tree t out into) % N.p)).length = t.length := by simp [hTl]
                    refine rg_end ?_
                    refine n_blk ?_
                    refine n_then ?_
                    refine rg ?_
                    refine st (y_add rfl rfl (by omega)) ?_
                    refine st (mvI rfl) ?_
                    refine rg_end ?_
                    exact n_then ⟨(k + 1, _), _, rfl, same_lk rfl (same_h0), ⟨rfl, trivial⟩, ⟨hlp0, by omega, hTl1, hlt1, hge1, hC⟩, by first | omega | (dsimp only; omega)⟩
                  ·
                    try simp only [decide_eq_true_eq, decide_eq_false_iff_not, Bool.not_eq_true', Bool.not_eq_false', Bool.and_eq_true, Bool.or_eq_true, Bool.or_eq_false_iff, Bool.cond_true_right, Bool.cond_false_right, Bool.cond_true_left, Bool.cond_false_left, ne_eq, Decidable.not_not, bne_iff_ne, beq_iff_eq, beq_eq_false_iff_ne, Bool.not_true, Bool.not_false] at hc5
                    have hlt1 : ∀ q : Nat, q < k + 1 → el T (q : Int) = if el (sdL N tree out) (q : Int) = true then (el t (q : Int) + moveD N tree t out into) % N.p else el t (q : Int) := fun q hq => by
                      by_cases e : q = k
                      · subst e; rw [if_neg (by rw [hc5]; decide)]; exact hk2
                      · exact hlt q (by omega)
                    have hge1 : ∀ q : Nat, k + 1 ≤ q → q < t.length → el T (q : Int) = el t (q : Int) := fun q h1 h2 => hge q (by omega) h2
                    have hTl1 := hTl
                    refine wp_skip ?_
                    refine n_blk ?_
                    refine n_then ?_
                    refine rg ?_
                    refine st (y_add rfl rfl (by omega)) ?_
                    refine st (mvI rfl) ?_
                    refine rg_end ?_
                    exact n_then ⟨(k + 1, _), _, rfl, same_lk rfl (same_h0), ⟨rfl, trivial⟩, ⟨hlp0, by omega, hTl1, hlt1, hge1, hC⟩, by first | omega | (dsimp only; omega)⟩
                ·
                  try simp only [decide_eq_true_eq, decide_eq_false_iff_not, Bool.not_eq_true', Bool.not_eq_false', Bool.and_eq_true, Bool.or_eq_true, Bool.or_eq_false_iff, Bool.cond_true_right, Bool.cond_false_right, Bool.cond_true_left, Bool.cond_false_left, ne_eq, Decidable.not_not, bne_iff_ne, beq_iff_eq, beq_eq_false_iff_ne, Bool.not_true, Bool.not_false] at hc4
                  have hTe : T = moveT N tree t out into := extEl (by unfold moveT; rw [hTl, shT_len]) (fun i i0 i1 => by
                    obtain ⟨q, rfl⟩ := Int.eq_ofNat_of_zero_le i0
                    unfold moveT
                    rw [hlt q (by omega), shT_el (by omega) (by omega)])
                  rw [← hTl]
                  refine wp_exit ?_
                  refine e_then (e_then (e_blk (?_)))
                  refine n_then ?_
                  refine wp_seq ?_
                  refine wp_seq ?_
                  refine rg ?_
                  refine st (y_lbN hb5 agg26 rfl) ?_
                  refine st (mvS rfl) ?_
                  refine sc cl23 (ref11_Feasible_ok N A _ _ T _ _ _ _ _ hN (Ow.sl hC)) rfl ?_
                  rintro v92 w88 ⟨rfl, ho89⟩
                  have hz93 := ho89.size
                  replace hN := hN.ext ho89
                  replace hTr := hTr.ext ho89
                  replace hT := hT.ext ho89
                  replace hE := hE.step ho89 (.inl (Nat.le_refl _))
                  replace hb5 := hb5.ext ho89
                  replace hm := hm.ext ho89
                  replace hb14 := hb14.ext ho89
                  replace hC := hC.ext ho89
                  refine st (y_not rfl) ?_
                  refine rg_end ?_
                  refine n_then ?_
                  refine cnd rfl (fun hc6 => ?_) (fun hc6 => ?_)
                  ·
                    try simp only [decide_eq_true_eq, decide_eq_false_iff_not, Bool.not_eq_true', Bool.not_eq_false', Bool.and_eq_true, Bool.or_eq_true, Bool.or_eq_false_iff, Bool.cond_true_right, Bool.cond_false_right, Bool.cond_true_left, Bool.cond_false_left, ne_eq, Decidable.not_not, bne_iff_ne, beq_iff_eq, beq_eq_false_iff_ne, Bool.not_true, Bool.not_false] at hc6
                    rw [hTe] at hc6
                    refine wp_seq ?_
                    refine rg ?_
                    refine st (asS rfl) ?_
                    refine st (asS rfl) ?_
                    refine st (asI rfl) ?_
                    refine rg_end ?_
                    refine n_then ?_
                    refine wp_ret ?_
                    refine r_then (ret3 (v := (.slice _ _ _)) (v' := (.slice _ _ _)) (v'' := (.int .i64 _)) Try.results52 rfl rfl rfl ?_)
                    exact ⟨none, 0, [], none, 0, [], 14, rfl, nilS0, nilS0, ⟨fun h => absurd ⟨hfo, hc0⟩ h, fun _ _ h => absurd hma h, fun _ _ _ _ => ⟨rfl, rfl, rfl⟩, fun _ _ _ h => by rw [hc6] at h; cases h⟩, hE⟩
                  ·
                    try simp only [decide_eq_true_eq, decide_eq_false_iff_not, Bool.not_eq_true', Bool.not_eq_false', Bool.and_eq_true, Bool.or_eq_true, Bool.or_eq_false_iff, Bool.cond_true_right, Bool.cond_false_right, Bool.cond_true_left, Bool.cond_false_left, ne_eq, Decidable.not_not, bne_iff_ne, beq_iff_eq, beq_eq_false_iff_ne, Bool.not_true, Bool.not_false] at hc6
                    rw [hTe] at hc6
                    refine wp_skip ?_
                    refine n_then ?_
                    refine wp_seq ?_
                    refine rg ?_
                    refine st (asS rfl) ?_
                    refine rg_end ?_
                    refine n_then ?_
                    refine wp_seq ?_
                    refine wp_seq ?_
                    refine rg ?_
                    refine st (asI rfl) ?_
                    refine rg_end ?_
                    refine n_then ?_
                    refine wp_block ?_
                    obtain ⟨z7, hz7⟩ : ∃ z, z = w88.heap.size := ⟨_, rfl⟩
                    refine lp (γ := Nat × List Int × Option Addr × Nat) [18, 19, 110, 111, 112, 113, 114, 115, 116, 117, 118, 119, 120, 121, 122, 123, 124, 125, 126, 127, 128, 129, 130, 131, 132, 133] (fun ⟨k, f, ao, co⟩ => [(19, .int .i64 (k : Int)), (18, .slice ao f.length co)]) (fun ⟨k, f, ao, co⟩ w_ => Ext w88 w_ ∧ (k : Int) ≤ N.acts.length ∧ f = pfF tree out into k ∧ Ow 3 encI 1 z7 w_.heap.size w_ ao co f) (fun ⟨k, f, ao, co⟩ => N.acts.length - k) (0, [], none, 0) ⟨rfl, rfl, trivial⟩ ⟨Out.refl _ _ _, by simp, rfl, Ow.nil (fun _ => rfl)⟩ ?_
                    rintro ⟨k, f, ao, co⟩ hav_ w94 ⟨ho95, hk2_, hfe, hO⟩
                    have hlp1 := ho95
                    have hz96 := ho95.size
                    replace hN := hN.ext ho95
                    replace hTr := hTr.ext ho95
                    replace hT := hT.ext ho95
                    replace hE := hE.step ho95 (.inl (Nat.le_refl _))
                    replace hb5 := hb5.ext ho95
                    replace hm := hm.ext ho95
                    replace hb14 := hb14.ext ho95
                    replace hC := hC.ext ho95
                    refine wp_seq ?_
                    refine wp_seq ?_
                    refine rg ?_
                    refine st (mvI rfl) ?_
                    refine st (y_fld fld26_2 rfl) ?_
                    refine st (y_lb hb5 na24 rfl rfl) ?_
                    refine st (y_len Try.underlying24 rfl) ?_
                    refine st (y_lss rfl rfl) ?_
                    refine rg_end ?_
                    refine n_then ?_
                    refine cnd rfl (fun hc7 => ?_) (fun hc7 => ?_)
                    ·
                      try simp only [decide_eq_true_eq, decide_eq_false_iff_not, Bool.not_eq_true', Bool.not_eq_false', Bool.and_eq_true, Bool.or_eq_true, Bool.or_eq_false_iff, Bool.cond_true_right, Bool.cond_false_right, Bool.cond_true_left, Bool.cond_false_left, ne_eq, Decidable.not_not, bne_iff_ne, beq_iff_eq, beq_eq_false_iff_ne, Bool.not_true, Bool.not_false] at hc7
                      have hpl := pfF_len (tree := tree) (out := out) (into := into) (k := k)
                      rw [← hfe] at hpl
                      refine wp_skip ?_
                      refine n_then ?_
                      refine wp_seq ?_
                      refine wp_block ?_
                      refine wp_seq ?_
                      refine rg ?_
                      refine st (mvI rfl) ?_
                      refine st (mvI rfl) ?_
                      refine st (y_eql rfl rfl) ?_
                      refine st (mvB rfl) ?_
                      refine gspL 120 rfl (fun hg97 => ?_) (fun hg97 => ?_)
                      ·
                        have hg97n := hg97; try simp only [decide_eq_true_eq, decide_eq_false_iff_not, Bool.not_eq_true', Bool.not_eq_false', Bool.and_eq_true, Bool.or_eq_true, Bool.or_eq_false_iff, Bool.cond_true_right, Bool.cond_false_right, Bool.cond_true_left, Bool.cond_false_left, ne_eq, Decidable.not_not, bne_iff_ne, beq_iff_eq, beq_eq_false_iff_ne, Bool.not_true, Bool.not_false] at hg97n
                        refine sts rfl rfl hg97 ?_
                        refine sts rfl rfl hg97 ?_
                        refine sts rfl rfl hg97 ?_
                        refine sts rfl rfl hg97 ?_
                        refine stu rfl rfl ?_
                        refine stu rfl rfl ?_
                        refine stu rfl rfl ?_
                        refine sts rfl rfl hg97 ?_
                        refine st (y_pickT rfl hg97 (v := .bool _) rfl) ?_
                        refine rg_end ?_
                        refine n_then ?_
                        refine cnd rfl (fun hc8 => ?_) (fun hc8 => absurd hc8 (by decide))
                        have hfe1 : f ++ [(k : Int)] = pfF tree out into (k + 1) := by
                          rw [hfe, pfF_yes (by first | exact .inl (by assumption) | exact .inr ⟨by assumption, by assumption⟩)]
                        refine rg ?_
                        refine st (mvS rfl) ?_
                        refine st (mvI rfl) ?_
                        refine sd (d_bs (bsl22_1 _ _) rfl ?_)
                        intro bl101 w98 hbbl101 hs100 ho99 hbl101
                        have hz102 := ho99.size
                        replace hN := hN.ext ho99
                        replace hTr := hTr.ext ho99
                        replace hT := hT.ext ho99
                        replace hE := hE.step ho99 (.inl (Nat.le_refl _))
                        replace hb5 := hb5.ext ho99
                        replace hm := hm.ext ho99
                        replace hb14 := hb14.ext ho99
                        replace hC := hC.ext ho99
                        replace hO := hO.ext ho99
                        replace hlp1 := hlp1.step ho99 (.inl (Nat.le_refl _))
                        have hrhO := hO.rng
                        refine sd (d_app (xs := [(k : Int)]) hO sl22 infoz3 (by decide) rfl rfl rfl rfl (hbl101) (fun _ => rfl) (by simp; unfold maxLen; omega) (by simp; omega) (by omega) (by omega) ?_)
                        intro ao1 co1 w103 ho104 hO'
                        have hs105 := ho104.size
                        clear hO; have hO := hO'; clear hO'
                        have hz108 := ho104.size
                        replace hN := hN.out ho104 (by first | omega | (simp only [blk_some, hi1_some] at *; omega))
                        replace hTr := hTr.out ho104 (by first | omega | (simp only [blk_some, hi1_some] at *; omega))
                        replace hT := hT.out ho104 (by first | omega | (simp only [blk_some, hi1_some] at *; omega))
                        replace hE := hE.step ho104 (by first | omega | (simp only [blk_some, hi1_some] at *; omega))
                        replace hb5 := hb5.out ho104 (by first | omega | (simp only [blk_some, hi1_some] at *; omega))
                        replace hm := hm.out ho104 (by first | omega | (simp only [blk_some, hi1_some] at *; omega))
                        replace hb14 := hb14.out ho104 (by first | omega | (simp only [blk_some, hi1_some] at *; omega))
                        have hrnhC := hC.rng
                        replace hC := hC.out ho104 (by first | omega | (simp only [blk_some, hi1_some] at *; omega))
                        replace hlp1 := hlp1.step ho104 (by first | omega | (simp only [blk_some, hi1_some] at *; omega))
                        refine st (asS rfl) ?_
                        refine rg_end ?_
                        refine n_blk ?_
                        refine n_then ?_
                        refine rg ?_
                        refine st (mvI rfl) ?_
                        refine st (y_add rfl rfl (by omega)) ?_
                        refine st (asI rfl) ?_
                        refine rg_end ?_
                        exact n_then ⟨(k + 1, _, _, _), _, rfl, same_lk rfl (same_h0), ⟨rfl, rfl, trivial⟩, ⟨hlp1, by omega, hfe1, hO.wide (by omega)⟩, by first | omega | (dsimp only; omega)⟩
                      ·
                        have hg97n := hg97; try simp only [decide_eq_true_eq, decide_eq_false_iff_not, Bool.not_eq_true', Bool.not_eq_false', Bool.and_eq_true, Bool.or_eq_true, Bool.or_eq_false_iff, Bool.cond_true_right, Bool.cond_false_right, Bool.cond_true_left, Bool.cond_false_left, ne_eq, Decidable.not_not, bne_iff_ne, beq_iff_eq, beq_eq_false_iff_ne, Bool.not_true, Bool.not_false] at hg97n
                        refine stg rfl rfl hg97 (mvI rfl) ?_
                        refine stg rfl rfl hg97 (mvI rfl) ?_
                        refine stg rfl rfl hg97 (y_neq rfl rfl) ?_
                        refine stg rfl rfl hg97 (mvB rfl) ?_
                        refine gspL 124 rfl (fun hg109 => ?_) (fun hg109 => ?_)
                        ·
                          have hg109n := hg109; try simp only [decide_eq_true_eq, decide_eq_false_iff_not, Bool.not_eq_true', Bool.not_eq_false', Bool.and_eq_true, Bool.or_eq_true, Bool.or_eq_false_iff, Bool.cond_true_right, Bool.cond_false_right, Bool.cond_true_left, Bool.cond_false_left, ne_eq, Decidable.not_not, bne_iff_ne, beq_iff_eq, beq_eq_false_iff_ne, Bool.not_true, Bool.not_false] at hg109n
                          refine stg rfl rfl hg109 (mvS rfl) ?_
                          refine stg rfl rfl hg109 (mvI rfl) ?_
                          refine scg rfl rfl hg109 cl67 (ref13_has_ok tree _ _ _ _ (k : Int) _ hTr htn) rfl ?_
                          rintro v114 w110 ⟨rfl, ho111⟩
                          have hz115 := ho111.size
                          replace hN := hN.ext ho111
                          replace hTr := hTr.ext ho111
                          replace hT := hT.ext ho111
                          replace hE := hE.step ho111 (.inl (Nat.le_refl _))
                          replace hb5 := hb5.ext ho111
                          replace hm := hm.ext ho111
                          replace hb14 := hb14.ext ho111
                          replace hC := hC.ext ho111
                          replace hO := hO.ext ho111
                          replace hlp1 := hlp1.step ho111 (.inl (Nat.le_refl _))
                          refine stg rfl rfl hg97 (y_pickT rfl hg109 (v := .bool _) rfl) ?_
                          refine st (y_pickF rfl hg97 (v := .bool _) rfl) ?_
                          refine rg_end ?_
                          refine n_then ?_
                          refine cnd rfl (fun hc8 => ?_) (fun hc8 => ?_)
                          ·
                            try simp only [decide_eq_true_eq, decide_eq_false_iff_not, Bool.not_eq_true', Bool.not_eq_false', Bool.and_eq_true, Bool.or_eq_true, Bool.or_eq_false_iff, Bool.cond_true_right, Bool.cond_false_right, Bool.cond_true_left, Bool.cond_false_left, ne_eq, Decidable.not_not, bne_iff_ne, beq_iff_eq, beq_eq_false_iff_ne, Bool.not_true, Bool.not_false] at hc8
                            have hfe1 : f ++ [(k : Int)] = pfF tree out into (k + 1) := by
                              rw [hfe, pfF_yes (by first | exact .inl (by assumption) | exact .inr ⟨by assumption, by assumption⟩)]
                            refine rg ?_
                            refine st (mvS rfl) ?_
                            refine st (mvI rfl) ?_
                            refine sd (d_bs (bsl22_1 _ _) rfl ?_)
                            intro bl119 w116 hbbl119 hs118 ho117 hbl119
                            have hz120 := ho117.size
                            replace hN := hN.ext ho117
                            replace hTr := hTr.ext ho117
                            replace hT := hT.ext ho117
                            replace hE := hE.step ho117 (.inl (Nat.le_refl _))
                            replace hb5 := hb5.ext ho117
                            replace hm := hm.ext ho117
                            replace hb14 := hb14.ext ho117
                            replace hC := hC.ext ho117
                            replace hO := hO.ext ho117
                            replace hlp1 := hlp1.step ho117 (.inl (Nat.le_refl _))
                            have hrhO := hO.rng
                            refine sd (d_app (xs := [(k : Int)]) hO sl22 infoz3 (by decide) rfl rfl rfl rfl (hbl119) (fun _ => rfl) (by simp; unfold maxLen; omega) (by simp; omega) (by omega) (by omega) ?_)
                            intro ao1 co1 w121 ho122 hO'
                            have hs123 := ho122.size
                            clear hO; have hO := hO'; clear hO'
                            have hz126 := ho122.size
                            replace hN := hN.out ho122 (by first | omega | (simp only [blk_some, hi1_some] at *; omega))
                            replace hTr := hTr.out ho122 (by first | omega | (simp only [blk_some, hi1_some] at *; omega))
                            replace hT := hT.out ho122 (by first | omega | (simp only [blk_some, hi1_some] at *; omega))
                            replace hE := hE.step ho122 (by first | omega | (simp only [blk_some, hi1_some] at *; omega))
                            replace hb5 := hb5.out ho122 (by first | omega | (simp only [blk_some, hi1_some] at *; omega))
                            replace hm := hm.out ho122 (by first | omega | (simp only [blk_some, hi1_some] at *; omega))
                            replace hb14 := hb14.out ho122 (by first | omega | (simp only [blk_some, hi1_some] at *; omega))
                            have hrnhC := hC.rng
                            replace hC := hC.out ho122 (by first | omega | (simp only [blk_some, hi1_some] at *; omega))
                            replace hlp1 := hlp1.step ho122 (by first | omega | (simp only [blk_some, hi1_some] at *; omega))
                            refine st (asS rfl) ?_
                            refine rg_end ?_
                            refine n_blk ?_
                            refine n_then ?_
                            refine rg ?_
                            refine st (mvI rfl) ?_
                            refine st (y_add rfl rfl (by omega)) ?_
                            refine st (asI rfl) ?_
                            refine rg_end ?_
                            exact n_then ⟨(k + 1, _, _, _), _, rfl, same_lk rfl (same_h0), ⟨rfl, rfl, trivial⟩, ⟨hlp1, by omega, hfe1, hO.wide (by omega)⟩, by first | omega | (dsimp only; omega)⟩
                          ·
                            try simp only [decide_eq_true_eq, decide_eq_false_iff_not, Bool.not_eq_true', Bool.not_eq_false', Bool.and_eq_true, Bool.or_eq_true, Bool.or_eq_false_iff, Bool.cond_true_right, Bool.cond_false_right, Bool.cond_true_left, Bool.cond_false_left, ne_eq, Decidable.not_not, bne_iff_ne, beq_iff_eq, beq_eq_false_iff_ne, Bool.not_true, Bool.not_false] at hc8
                            have hfe1 : f = pfF tree out into (k + 1) := by
                              rw [hfe, pfF_no (fun h => by
                                rcases h with h | ⟨h1, h2⟩
                                · first | exact absurd h (by assumption)
                                · first | exact absurd h2 (by assumption) | exact absurd (by assumption) h1)]
                            refine wp_skip ?_
                            refine n_blk ?_
                            refine n_then ?_
                            refine rg ?_
                            refine st (mvI rfl) ?_
                            refine st (y_add rfl rfl (by omega)) ?_
                            refine st (asI rfl) ?_
                            refine rg_end ?_
                            exact n_then ⟨(k + 1, _, _, _), _, rfl, same_lk rfl (same_h0), ⟨rfl, rfl, trivial⟩, ⟨hlp1, by omega, hfe1, hO.wide (by omega)⟩, by first | omega | (dsimp only; omega)⟩
                        ·
                          have hg109n := hg109; try simp only [decide_eq_true_eq, decide_eq_false_iff_not, Bool.not_eq_true', Bool.not_eq_false', Bool.and_eq_true, Bool.or_eq_true, Bool.or_eq_false_iff, Bool.cond_true_right, Bool.cond_false_right, Bool.cond_true_left, Bool.cond_false_left, ne_eq, Decidable.not_not, bne_iff_ne, beq_iff_eq, beq_eq_false_iff_ne, Bool.not_true, Bool.not_false] at hg109n
                          refine sts rfl rfl hg109 ?_
                          refine sts rfl rfl hg109 ?_
                          refine sts rfl rfl hg109 ?_
                          refine stg rfl rfl hg97 (y_pickF rfl hg109 (v := .bool _) rfl) ?_
                          refine st (y_pickF rfl hg97 (v := .bool _) rfl) ?_
                          refine rg_end ?_
                          refine n_then ?_
                          refine cnd rfl (fun hc8 => absurd hc8 (by decide)) (fun hc8 => ?_)
                          have hfe1 : f = pfF tree out into (k + 1) := by
                            rw [hfe, pfF_no (fun h => by
                              rcases h with h | ⟨h1, h2⟩
                              · first | exact absurd h (by assumption)
                              · first | exact absurd h2 (by assumption) | exact absurd (by assumption) h1)]
                          refine wp_skip ?_
                          refine n_blk ?_
                          refine n_then ?_
                          refine rg ?_
                          refine st (mvI rfl) ?_
                          refine st (y_add rfl rfl (by omega)) ?_
                          refine st (asI rfl) ?_
                          refine rg_end ?_
                          exact n_then ⟨(k + 1, _, _, _), _, rfl, same_lk rfl (same_h0), ⟨rfl, rfl, trivial⟩, ⟨hlp1, by omega, hfe1, hO.wide (by omega)⟩, by first | omega | (dsimp only; omega)⟩
                    ·
                      try simp only [decide_eq_true_eq, decide_eq_false_iff_not, Bool.not_eq_true', Bool.not_eq_false', Bool.and_eq_true, Bool.or_eq_true, Bool.or_eq_false_iff, Bool.cond_true_right, Bool.cond_false_right, Bool.cond_true_left, Bool.cond_false_left, ne_eq, Decidable.not_not, bne_iff_ne, beq_iff_eq, beq_eq_false_iff_ne, Bool.not_true, Bool.not_false] at hc7
                      have hkk : k = N.acts.length := by omega
                      subst hkk
                      refine wp_exit ?_
                      refine e_then (e_then (e_blk (?_)))
                      refine n_then ?_
                      refine wp_seq ?_
                      refine rg ?_
                      refine st (mvS rfl) ?_
                      refine st (mvS rfl) ?_
                      refine st (asS rfl) ?_
                      refine st (asS rfl) ?_
                      refine st (asI rfl) ?_
                      refine rg_end ?_
                      refine n_then ?_
                      refine wp_ret ?_
                      refine ret3 (v := (.slice _ _ _)) (v' := (.slice _ _ _)) (v'' := (.int .i64 _)) Try.results52 rfl rfl rfl ?_
                      exact ⟨ao, co, f, a16, c16, T, 0, by first | rfl | rw [hTl], Sl.wide (Ow.sl hO) (by omega) (by omega), Sl.wide (Ow.sl hC) (by omega) (by omega), ⟨fun h => absurd ⟨hfo, hc0⟩ h, fun _ _ h => absurd hma h, fun _ _ _ h => (by rw [hc6] at h; cases h), fun _ _ _ _ => ⟨hfe, hTe, rfl⟩⟩, hE⟩
              ·
                try simp only [decide_eq_true_eq, decide_eq_false_iff_not, Bool.not_eq_true', Bool.not_eq_false', Bool.and_eq_true, Bool.or_eq_true, Bool.or_eq_false_iff, Bool.cond_true_right, Bool.cond_false_right, Bool.cond_true_left, Bool.cond_false_left, ne_eq, Decidable.not_not, bne_iff_ne, beq_iff_eq, beq_eq_false_iff_ne, Bool.not_true, Bool.not_false] at hc3
                have hdd : moveD N tree t out into = durA N t (el N.acts into) - (el N.acts into).mn := by
                  unfold moveD
                  rw [if_pos (by
                    cases q : el (sdL N tree out) (el N.acts into).fr with
                    | true => rfl
                    | false => exact absurd (q.trans hc3.symm) hxne), hdu]
                  omega
                refine wp_skip ?_
                refine n_then ?_
                refine wp_seq ?_
                refine rg ?_
                refine st (mvS rfl) ?_
                obtain ⟨zc_, hzc_⟩ : ∃ z, z = w55.heap.size := ⟨_, rfl⟩
                have hC := Ow.nil (E := 3) (sz := 1) (enc := encI) (lo := zc_) (hi := 0) (w := w55) (fun _ => rfl)
                have hrhC := hC.rng
                refine sd (d_appN (xs := t) hC sl22 infoz3 (by decide) rfl rfl rfl (rfl) (hT) (fun _ => rfl) (by simp; unfold maxLen; omega) (by simp; omega) (by omega) (by omega) ?_)
                intro a16 c16 w127 ho128 hC'
                have hs129 := ho128.size
                clear hC; have hC := hC'; clear hC'
                have hz132 := ho128.size
                replace hN := hN.out ho128 (by first | omega | (simp only [blk_some, hi1_some] at *; omega))
                replace hTr := hTr.out ho128 (by first | omega | (simp only [blk_some, hi1_some] at *; omega))
                replace hT := hT.out ho128 (by first | omega | (simp only [blk_some, hi1_some] at *; omega))
                replace hE := hE.step ho128 (by first | omega | (simp only [blk_some, hi1_some] at *; omega))
                replace hb5 := hb5.out ho128 (by first | omega | (simp only [blk_some, hi1_some] at *; omega))
                replace hm := hm.out ho128 (by first | omega | (simp only [blk_some, hi1_some] at *; omega))
                replace hb14 := hb14.out ho128 (by first | omega | (simp only [blk_some, hi1_some] at *; omega))
                simp only [List.nil_append] at hC ⊢
                have hCr := hC.rng
                obtain ⟨z6, hz6⟩ : ∃ z, z = w127.heap.size := ⟨_, rfl⟩
                refine st (asS rfl) ?_
                refine rg_end ?_
                refine n_then ?_
                refine wp_seq ?_
                refine wp_seq ?_
                refine rg ?_
                refine st (mvS rfl) ?_
                refine st (y_len Try.underlying22 rfl) ?_
                refine st (mvI rfl) ?_
                refine rg_end ?_
                refine n_then ?_
                refine wp_block ?_
                refine lp (γ := Nat × List Int) [17, 86, 87, 88, 89, 90, 91, 92, 93, 94, 95, 96, 97, 98, 99, 100, 101, 102, 103, 104, 105] (fun ⟨k, T⟩ => [(86, .int .i64 (k : Int))]) (fun ⟨k, T⟩ w_ => Out (blk a16) (hi1 a16) w127 w_ ∧ (k : Int) ≤ t.length ∧ T.length = t.length ∧ (∀ q : Nat, q < k → el T (q : Int) = if el (sdL N tree out) (q : Int) = true then (el t (q : Int) + moveD N tree t out into) % N.p else el t (q : Int)) ∧ (∀ q : Nat, k ≤ q → q < t.length → el T (q : Int) = el t (q : Int)) ∧ Ow 3 encI 1 zc_ z6 w_ a16 c16 T) (fun ⟨k, T⟩ => t.length - k) (0, t) ⟨rfl, trivial⟩ ⟨Out.refl _ _ _, by omega, rfl, (fun q hq => by omega), (fun q _ _ => rfl), hC.wide (by omega)⟩ ?_
                rintro ⟨k, T⟩ hav_ w133 ⟨ho134, hk_, hTl, hlt, hge, hC⟩
                have hlp0 := ho134
                have hz135 := ho134.size
                replace hN := hN.out ho134 (by first | omega | (simp only [blk_some, hi1_some] at *; omega))
                replace hTr := hTr.out ho134 (by first | omega | (simp only [blk_some, hi1_some] at *; omega))
                replace hT := hT.out ho134 (by first | omega | (simp only [blk_some, hi1_some] at *; omega))
                replace hE := hE.step ho134 (by first | omega | (simp only [blk_some, hi1_some] at *; omega))
                replace hb5 := hb5.out ho134 (by first | omega | (simp only [blk_some, hi1_some] at *; omega))
                replace hm := hm.out ho134 (by first | omega | (simp only [blk_some, hi1_some] at *; omega))
                replace hb14 := hb14.out ho134 (by first | omega | (simp only [blk_some, hi1_some] at *; omega))
                refine wp_seq ?_
                refine rg ?_
                refine st (y_lss rfl rfl) ?_
                refine rg_end ?_
                refine n_then ?_
                refine wp_seq ?_
                refine cnd rfl (fun hc4 => ?_) (fun hc4 => ?_)
                ·
                  try simp only [decide_eq_true_eq, decide_eq_false_iff_not, Bool.not_eq_true', Bool.not_eq_false', Bool.and_eq_true, Bool.or_eq_true, Bool.or_eq_false_iff, Bool.cond_true_right, Bool.cond_false_right, Bool.cond_true_left, Bool.cond_false_left, ne_eq, Decidable.not_not, bne_iff_ne, beq_iff_eq, beq_eq_false_iff_ne, Bool.not_true, Bool.not_false] at hc4
                  have hk2 := hge k (Nat.le_refl _) (by omega)
                  have b3 := hg.rng _ (el_mem (l := t) (i := (k : Int)) (by omega) (by omega))
                  refine wp_skip ?_
                  refine n_then ?_
                  refine wp_seq ?_
                  refine wp_block ?_
                  refine wp_seq ?_
                  refine rg ?_
                  refine st (mvI rfl) ?_
                  refine st (asI rfl) ?_
                  refine rg_end ?_
                  refine n_then ?_
                  refine wp_seq ?_
                  refine rg ?_
                  refine st (mvS rfl) ?_
                  refine st (mvI rfl) ?_
                  refine st (y_ix hm sl31 rfl (hsl.symm) rfl (by omega) (by omega)) ?_
                  refine st (y_le hm na4 rfl (by omega) (by omega) rfl) ?_
                  refine rg_end ?_
                  refine n_then ?_
                  refine cnd rfl (fun hc5 => ?_) (fun hc5 => ?_)
                  ·
                    try simp only [decide_eq_true_eq, decide_eq_false_iff_not, Bool.not_eq_true', Bool.not_eq_false', Bool.and_eq_true, Bool.or_eq_true, Bool.or_eq_false_iff, Bool.cond_true_right, Bool.cond_false_right, Bool.cond_true_left, Bool.cond_false_left, ne_eq, Decidable.not_not, bne_iff_ne, beq_iff_eq, beq_eq_false_iff_ne, Bool.not_true, Bool.not_false] at hc5
                    have hv : (if el (sdL N tree out) (k : Int) = true then (el t (k : Int) + moveD N tree t out into) % N.p else el t (k : Int)) = (el t (k : Int) + moveD N tree t out into) % N.p := if_pos hc5
                    refine rgD 11 (fun w_ => Ext w133 w_) (fun i => Nat.beq i 10) mixed (by kernel_rfl) ?_
                    intro w136 ho137 hs138
                    refine ⟨ho137, ?_⟩
                    have hx139 := ho137
                    refine tn rfl (fun _ hG => mvS rfl) ?_
                    refine tn rfl (fun _ hG => mvI rfl) ?_
                    refine tn rfl (fun _ hG => mvS rfl) ?_
                    refine tn rfl (fun _ hG => mvI rfl) ?_
                    refine tn rfl (fun _ hG => y_ix (hC.ext hG).sl sl22 rfl (hTl.symm) rfl (by omega) (by omega)) ?_
                    refine tn rfl (fun _ hG => y_le (hC.ext hG).sl na3 rfl (by omega) (by omega) rfl) ?_
                    refine tn rfl (fun _ hG => mvI rfl) ?_
                    refine tn rfl (fun _ hG => y_add rfl rfl (by rw [hk2]; omega)) ?_
                    refine tn rfl (fun _ hG => y_fld fld26_0 rfl) ?_
                    refine tn rfl (fun _ hG => y_lb (hb5.ext hG) na3 rfl rfl) ?_
                    refine tc rfl cl65 (ref1_Mod_ok _ _ _ (by rw [hk2]; omega) (by omega) (by omega)) rfl ?_
                    rintro v144 w140 ⟨rfl, ho141⟩
                    rw [hk2, ← hdd]
                    have hx145 := hx139.step ho141 (.inl (Nat.le_refl _))
                    have hz146 := ho141.size
                    refine ⟨hx145, ?_⟩
                    refine t_end ?_
                    have hz147 := hx145.size
                    replace hN := hN.ext hx145
                    replace hTr := hTr.ext hx145
                    replace hT := hT.ext hx145
                    replace hE := hE.step hx145 (.inl (Nat.le_refl _))
                    replace hb5 := hb5.ext hx145
                    replace hm := hm.ext hx145
                    replace hb14 := hb14.ext hx145
                    replace hC := hC.ext hx145
                    replace hlp0 := hlp0.step hx145 (.inl (Nat.le_refl _))
                    refine st (y_ix hC.sl sl22 rfl (hTl.symm) rfl (by omega) (by omega)) ?_
                    refine sd0 (d_se (j := 0) (e' := ((el t (k : Int) + moveD N tree t out into) % N.p)) hC sz3 rfl rfl rfl (by omega) (by omega) (Nat.le_of_ble_eq_true rfl) rfl ?_)
                    intro w148 hs150 ho149 hC'
                    have hrhC := hC.rng
                    clear hC; have hC := hC'; clear hC'
                    have hz151 := ho149.size
                    replace hN := hN.out ho149 (by first | omega | (simp only [blk_some, hi1_some] at *; omega))
                    replace hTr := hTr.out ho149 (by first | omega | (simp only [blk_some, hi1_some] at *; omega))
                    replace hT := hT.out ho149 (by first | omega | (simp only [blk_some, hi1_some] at *; omega))
                    replace hE := hE.step ho149 (by first | omega | (simp only [blk_some, hi1_some] at *; omega))
                    replace hb5 := hb5.out ho149 (by first | omega | (simp only [blk_some, hi1_some] at *; omega))
                    replace hm := hm.out ho149 (by first | omega | (simp only [blk_some, hi1_some] at *; omega))
                    replace hb14 := hb14.out ho149 (by first | omega | (simp only [blk_some, hi1_some] at *; omega))
                    replace hlp0 := hlp0.step ho149 (by first | omega | (simp only [blk_some, hi1_some] at *; omega))
                    have hlt1 : ∀ q : Nat, q < k + 1 → el (T.set (k : Int).toNat ((el t (k : Int) + moveD N tree t out into) % N.p)) (q : Int) = if el (sdL N tree out) (q : Int) = true then (el t (q : Int) + moveD N tree t out into) % N.p else el t (q : Int) := fun q hq => by
                      by_cases e : q = k
                      · subst e; rw [elSetS (by omega) (by omega), hv]
                      · rw [elSetN (by omega) (by omega) (by omega)]; exact hlt q (by omega)
                    have hge1 : ∀ q : Nat, k + 1 ≤ q → q < t.length → el (T.set (k : Int).toNat ((el t (k : Int) + moveD N tree t out into) % N.p)) (q : Int) = el t (q : Int) := fun q h1 h2 => by
                      rw [elSetN (by omega) (by omega) (by omega)]; exact hge q (by omega) h2
                    have hTl1 : (T.set (k : Int).toNat ((el t (k : Int) + moveD N tree t out into) % N.p)).length = t.length := by simp [hTl]
                    refine rg_end ?_
                    refine n_blk ?_
                    refine n_then ?_
                    refine rg ?_
                    refine st (y_add rfl rfl (by omega)) ?_
                    refine st (mvI rfl) ?_
                    refine rg_end ?_
                    exact n_then ⟨(k + 1, _), _, rfl, same_lk rfl (same_h0), ⟨rfl, trivial⟩, ⟨hlp0, by omega, hTl1, hlt1, hge1, hC⟩, by first | omega | (dsimp only; omega)⟩
                  ·
                    try simp only [decide_eq_true_eq, decide_eq_false_iff_not, Bool.not_eq_true', Bool.not_eq_false', Bool.and_eq_true, Bool.or_eq_true, Bool.or_eq_false_iff, Bool.cond_true_right, Bool.cond_false_right, Bool.cond_true_left, Bool.cond_false_left, ne_eq, Decidable.not_not, bne_iff_ne, beq_iff_eq, beq_eq_false_iff_ne, Bool.not_true, Bool.not_false] at hc5
                    have hlt1 : ∀ q : Nat, q < k + 1 → el T (q : Int) = if el (sdL N tree out) (q : Int) = true then (el t (q : Int) + moveD N tree t out into) % N.p else el t (q : Int) := fun q hq => by
                      by_cases e : q = k
                      · subst e; rw [if_neg (by rw [hc5]; decide)]; exact hk2
                      · exact hlt q (by omega)
                    have hge1 : ∀ q : Nat, k + 1 ≤ q → q < t.length → el T (q : Int) = el t (q : Int) := fun q h1 h2 => hge q (by omega) h2
                    have hTl1 := hTl
                    refine wp_skip ?_
                    refine n_blk ?_
                    refine n_then ?_
                    refine rg ?_
                    refine st (y_add rfl rfl (by omega)) ?_
                    refine st (mvI rfl) ?_
                    refine rg_end ?_
                    exact n_then ⟨(k + 1, _), _, rfl, same_lk rfl (same_h0), ⟨rfl, trivial⟩, ⟨hlp0, by omega, hTl1, hlt1, hge1, hC⟩, by first | omega | (dsimp only; omega)⟩
                ·
                  try simp only [decide_eq_true_eq, decide_eq_false_iff_not, Bool.not_eq_true', Bool.not_eq_false', Bool.and_eq_true, Bool.or_eq_true, Bool.or_eq_false_iff, Bool.cond_true_right, Bool.cond_false_right, Bool.cond_true_left, Bool.cond_false_left, ne_eq, Decidable.not_not, bne_iff_ne, beq_iff_eq, beq_eq_false_iff_ne, Bool.not_true, Bool.not_false] at hc4
                  have hTe : T = moveT N tree t out into := extEl (by unfold moveT; rw [hTl, shT_len]) (fun i i0 i1 => by
                    obtain ⟨q, rfl⟩ := Int.eq_ofNat_of_zero_le i0
                    unfold moveT
                    rw [hlt q (by omega), shT_el (by omega) (by omega)])
                  rw [← hTl]
                  refine wp_exit ?_
                  refine e_then (e_then (e_blk (?_)))
                  refine n_then ?_
                  refine wp_seq ?_
                  refine wp_seq ?_
                  refine rg ?_
                  refine st (y_lbN hb5 agg26 rfl) ?_
                  refine st (mvS rfl) ?_
                  refine sc cl23 (ref11_Feasible_ok N A _ _ T _ _ _ _ _ hN (Ow.sl hC)) rfl ?_
                  rintro v156 w152 ⟨rfl, ho153⟩
                  have hz157 := ho153.size
                  replace hN := hN.ext ho153
                  replace hTr := hTr.ext ho153
                  replace hT := hT.ext ho153
                  replace hE := hE.step ho153 (.inl (Nat.le_refl _))
                  replace hb5 := hb5.ext ho153
                  replace hm := hm.ext ho153
                  replace hb14 := hb14.ext ho153
                  replace hC := hC.ext ho153
                  refine st (y_not rfl) ?_
                  refine rg_end ?_
                  refine n_then ?_
                  refine cnd rfl (fun hc6 => ?_) (fun hc6 => ?_)
                  ·
                    try simp only [decide_eq_true_eq, decide_eq_false_iff_not, Bool.not_eq_true', Bool.not_eq_false', Bool.and_eq_true, Bool.or_eq_true, Bool.or_eq_false_iff, Bool.cond_true_right, Bool.cond_false_right, Bool.cond_true_left, Bool.cond_false_left, ne_eq, Decidable.not_not, bne_iff_ne, beq_iff_eq, beq_eq_false_iff_ne, Bool.not_true, Bool.not_false] at hc6
                    rw [hTe] at hc6
                    refine wp_seq ?_
                    refine rg ?_
                    refine st (asS rfl) ?_
                    refine st (asS rfl) ?_
                    refine st (asI rfl) ?_
                    refine rg_end ?_
                    refine n_then ?_
                    refine wp_ret ?_
                    refine r_then (ret3 (v := (.slice _ _ _)) (v' := (.slice _ _ _)) (v'' := (.int .i64 _)) Try.results52 rfl rfl rfl ?_)
                    exact ⟨none, 0, [], none, 0, [], 14, rfl, nilS0, nilS0, ⟨fun h => absurd ⟨hfo, hc0⟩ h, fun _ _ h => absurd hma h, fun _ _ _ _ => ⟨rfl, rfl, rfl⟩, fun _ _ _ h => by rw [hc6] at h; cases h⟩, hE⟩
                  ·
                    try simp only [decide_eq_true_eq, decide_eq_false_iff_not, Bool.not_eq_true', Bool.not_eq_false', Bool.and_eq_true, Bool.or_eq_true, Bool.or_eq_false_iff, Bool.cond_true_right, Bool.cond_false_right, Bool.cond_true_left, Bool.cond_false_left, ne_eq, Decidable.not_not, bne_iff_ne, beq_iff_eq, beq_eq_false_iff_ne, Bool.not_true, Bool.not_false] at hc6
                    rw [hTe] at hc6
                    refine wp_skip ?_
                    refine n_then ?_
                    refine wp_seq ?_
                    refine rg ?_
                    refine st (asS rfl) ?_
                    refine rg_end ?_
                    refine n_then ?_
                    refine wp_seq ?_
                    refine wp_seq ?_
                    refine rg ?_
                    refine st (asI rfl) ?_
                    refine rg_end ?_
                    refine n_then ?_
                    refine wp_block ?_
                    obtain ⟨z7, hz7⟩ : ∃ z, z = w152.heap.size := ⟨_, rfl⟩
                    refine lp (γ := Nat × List Int × Option Addr × Nat) [18, 19, 110, 111, 112, 113, 114, 115, 116, 117, 118, 119, 120, 121, 122, 123, 124, 125, 126, 127, 128, 129, 130, 131, 132, 133] (fun ⟨k, f, ao, co⟩ => [(19, .int .i64 (k : Int)), (18, .slice ao f.length co)]) (fun ⟨k, f, ao, co⟩ w_ => Ext w152 w_ ∧ (k : Int) ≤ N.acts.length ∧ f = pfF tree out into k ∧ Ow 3 encI 1 z7 w_.heap.size w_ ao co f) (fun ⟨k, f, ao, co⟩ => N.acts.length - k) (0, [], none, 0) ⟨rfl, rfl, trivial⟩ ⟨Out.refl _ _ _, by simp, rfl, Ow.nil (fun _ => rfl)⟩ ?_
                    rintro ⟨k, f, ao, co⟩ hav_ w158 ⟨ho159, hk2_, hfe, hO⟩
                    have hlp1 := ho159
                    have hz160 := ho159.size
                    replace hN := hN.ext ho159
                    replace hTr := hTr.ext ho159
                    replace hT := hT.ext ho159
                    replace hE := hE.step ho159 (.inl (Nat.le_refl _))
                    replace hb5 := hb5.ext ho159
                    replace hm := hm.ext ho159
                    replace hb14 := hb14.ext ho159
                    replace hC := hC.ext ho159
                    refine wp_seq ?_
                    refine wp_seq ?_
                    refine rg ?_
                    refine st (mvI rfl) ?_
                    refine st (y_fld fld26_2 rfl) ?_
                    refine st (y_lb hb5 na24 rfl rfl) ?_
                    refine st (y_len Try.underlying24 rfl) ?_
                    refine st (y_lss rfl rfl) ?_
                    refine rg_end ?_
                    refine n_then ?_
                    refine cnd rfl (fun hc7 => ?_) (fun hc7 => ?_)
                    ·
                      try simp only [decide_eq_true_eq, decide_eq_false_iff_not, Bool.not_eq_true', Bool.not_eq_false', Bool.and_eq_true, Bool.or_eq_true, Bool.or_eq_false_iff, Bool.cond_true_right, Bool.cond_false_right, Bool.cond_true_left, Bool.cond_false_left, ne_eq, Decidable.not_not, bne_iff_ne, beq_iff_eq, beq_eq_false_iff_ne, Bool.not_true, Bool.not_false] at hc7
                      have hpl := pfF_len (tree := tree) (out := out) (into := into) (k := k)
                      rw [← hfe] at hpl
                      refine wp_skip ?_
                      refine n_then ?_
                      refine wp_seq ?_
                      refine wp_block ?_
                      refine wp_seq ?_
                      refine rg ?_
                      refine st (mvI rfl) ?_
                      refine st (mvI rfl) ?_
                      refine st (y_eql rfl rfl) ?_
                      refine st (mvB rfl) ?_
                      refine gspL 120 rfl (fun hg161 => ?_) (fun hg161 => ?_)
                      ·
                        have hg161n := hg161; try simp only [decide_eq_true_eq, decide_eq_false_iff_not, Bool.not_eq_true', Bool.not_eq_false', Bool.and_eq_true, Bool.or_eq_true, Bool.or_eq_false_iff, Bool.cond_true_right, Bool.cond_false_right, Bool.cond_true_left, Bool.cond_false_left, ne_eq, Decidable.not_not, bne_iff_ne, beq_iff_eq, beq_eq_false_iff_ne, Bool.not_true, Bool.not_false] at hg161n
                        refine sts rfl rfl hg161 ?_
                        refine sts rfl rfl hg161 ?_
                        refine sts rfl rfl hg161 ?_
                        refine sts rfl rfl hg161 ?_
                        refine stu rfl rfl ?_
                        refine stu rfl rfl ?_
                        refine stu rfl rfl ?_
                        refine sts rfl rfl hg161 ?_
                        refine st (y_pickT rfl hg161 (v := .bool _) rfl) ?_
                        refine rg_end ?_
                        refine n_then ?_
                        refine cnd rfl (fun hc8 => ?_) (fun hc8 => absurd hc8 (by decide))
                        have hfe1 : f ++ [(k : Int)] = pfF tree out into (k + 1) := by
                          rw [hfe, pfF_yes (by first | exact .inl (by assumption) | exact .inr ⟨by assumption, by assumption⟩)]
                        refine rg ?_
                        refine st (mvS rfl) ?_
                        refine st (mvI rfl) ?_
                        refine sd (d_bs (bsl22_1 _ _) rfl ?_)
                        intro bl165 w162 hbbl165 hs164 ho163 hbl165
                        have hz166 := ho163.size
                        replace hN := hN.ext ho163
                        replace hTr := hTr.ext ho163
                        replace hT := hT.ext ho163
                        replace hE := hE.step ho163 (.inl (Nat.le_refl _))
                        replace hb5 := hb5.ext ho163
                        replace hm := hm.ext ho163
                        replace hb14 := hb14.ext ho163
                        replace hC := hC.ext ho163
                        replace hO := hO.ext ho163
                        replace hlp1 := hlp1.step ho163 (.inl (Nat.le_refl _))
                        have hrhO := hO.rng
                        refine sd (d_app (xs := [(k : Int)]) hO sl22 infoz3 (by decide) rfl rfl rfl rfl (hbl165) (fun _ => rfl) (by simp; unfold maxLen; omega) (by simp; omega) (by omega) (by omega) ?_)
                        intro ao1 co1 w167 ho168 hO'
                        have hs169 := ho168.size
                        clear hO; have hO := hO'; clear hO'
                        have hz172 := ho168.size
                        replace hN := hN.out ho168 (by first | omega | (simp only [blk_some, hi1_some] at *; omega))
                        replace hTr := hTr.out ho168 (by first | omega | (simp only [blk_some, hi1_some] at *; omega))
                        replace hT := hT.out ho168 (by first | omega | (simp only [blk_some, hi1_some] at *; omega))
                        replace hE := hE.step ho168 (by first | omega | (simp only [blk_some, hi1_some] at *; omega))
                        replace hb5 := hb5.out ho168 (by first | omega | (simp only [blk_some, hi1_some] at *; omega))
                        replace hm := hm.out ho168 (by first | omega | (simp only [blk_some, hi1_some] at *; omega))
                        replace hb14 := hb14.out ho168 (by first | omega | (simp only [blk_some, hi1_some] at *; omega))
                        have hrnhC := hC.rng
                        replace hC := hC.out ho168 (by first | omega | (simp only [blk_some, hi1_some] at *; omega))
                        replace hlp1 := hlp1.step ho168 (by first | omega | (simp only [blk_some, hi1_some] at *; omega))
                        refine st (asS rfl) ?_
                        refine rg_end ?_
                        refine n_blk ?_
                        refine n_then ?_
                        refine rg ?_
                        refine st (mvI rfl) ?_
                        refine st (y_add rfl rfl (by omega)) ?_
                        refine st (asI rfl) ?_
                        refine rg_end ?_
                        exact n_then ⟨(k + 1, _, _, _), _, rfl, same_lk rfl (same_h0), ⟨rfl, rfl, trivial⟩, ⟨hlp1, by omega, hfe1, hO.wide (by omega)⟩, by first | omega | (dsimp only; omega)⟩
                      ·
                        have hg161n := hg161; try simp only [decide_eq_true_eq, decide_eq_false_iff_not, Bool.not_eq_true', Bool.not_eq_false', Bool.and_eq_true, Bool.or_eq_true, Bool.or_eq_false_iff, Bool.cond_true_right, Bool.cond_false_right, Bool.cond_true_left, Bool.cond_false_left, ne_eq, Decidable.not_not, bne_iff_ne, beq_iff_eq, beq_eq_false_iff_ne, Bool.not_true, Bool.not_false] at hg161n
                        refine stg rfl rfl hg161 (mvI rfl) ?_
                        refine stg rfl rfl hg161 (mvI rfl) ?_
                        refine stg rfl rfl hg161 (y_neq rfl rfl) ?_
                        refine stg rfl rfl hg161 (mvB rfl) ?_
                        refine gspL 124 rfl (fun hg173 => ?_) (fun hg173 => ?_)
                        ·
                          have hg173n := hg173; try simp only [decide_eq_true_eq, decide_eq_false_iff_not, Bool.not_eq_true', Bool.not_eq_false', Bool.and_eq_true, Bool.or_eq_true, Bool.or_eq_false_iff, Bool.cond_true_right, Bool.cond_false_right, Bool.cond_true_left, Bool.cond_false_left, ne_eq, Decidable.not_not, bne_iff_ne, beq_iff_eq, beq_eq_false_iff_ne, Bool.not_true, Bool.not_false] at hg173n
                          refine stg rfl rfl hg173 (mvS rfl) ?_
                          refine stg rfl rfl hg173 (mvI rfl) ?_
                          refine scg rfl rfl hg173 cl67 (ref13_has_ok tree _ _ _ _ (k : Int) _ hTr htn) rfl ?_
                          rintro v178 w174 ⟨rfl, ho175⟩
                          have hz179 := ho175.size
                          replace hN := hN.ext ho175
                          replace hTr := hTr.ext ho175
                          replace hT := hT.ext ho175
                          replace hE := hE.step ho175 (.inl (Nat.le_refl _))
                          replace hb5 := hb5.ext ho175
                          replace hm := hm.ext ho175
                          replace hb14 := hb14.ext ho175
                          replace hC := hC.ext ho175
                          replace hO := hO.ext ho175
                          replace hlp1 := hlp1.step ho175 (.inl (Nat.le_refl _))
                          refine stg rfl rfl hg161 (y_pickT rfl hg173 (v := .bool _) rfl) ?_
                          refine st (y_pickF rfl hg161 (v := .bool _) rfl) ?_
                          refine rg_end ?_
                          refine n_then ?_
                          refine cnd rfl (fun hc8 => ?_) (fun hc8 => ?_)
                          ·
                            try simp only [decide_eq_true_eq, decide_eq_false_iff_not, Bool.not_eq_true', Bool.not_eq_false', Bool.and_eq_true, Bool.or_eq_true, Bool.or_eq_false_iff, Bool.cond_true_right, Bool.cond_false_right, Bool.cond_true_left, Bool.cond_false_left, ne_eq, Decidable.not_not, bne_iff_ne, beq_iff_eq, beq_eq_false_iff_ne, Bool.not_true, Bool.not_false] at hc8
                            have hfe1 : f ++ [(k : Int)] = pfF tree out into (k + 1) := by
                              rw [hfe, pfF_yes (by first | exact .inl (by assumption) | exact .inr ⟨by assumption, by assumption⟩)]
                            refine rg ?_
                            refine st (mvS rfl) ?_
                            refine st (mvI rfl) ?_
                            refine sd (d_bs (bsl22_1 _ _) rfl ?_)
                            intro bl183 w180 hbbl183 hs182 ho181 hbl183
                            have hz184 := ho181.size
                            replace hN := hN.ext ho181
                            replace hTr := hTr.ext ho181
                            replace hT := hT.ext ho181
                            replace hE := hE.step ho181 (.inl (Nat.le_refl _))
                            replace hb5 := hb5.ext ho181
                            replace hm := hm.ext ho181
                            replace hb14 := hb14.ext ho181
                            replace hC := hC.ext ho181
                            replace hO := hO.ext ho181
                            replace hlp1 := hlp1.step ho181 (.inl (Nat.le_refl _))
                            have hrhO := hO.rng
                            refine sd (d_app (xs := [(k : Int)]) hO sl22 infoz3 (by decide) rfl rfl rfl rfl (hbl183) (fun _ => rfl) (by simp; unfold maxLen; omega) (by simp; omega) (by omega) (by omega) ?_)
                            intro ao1 co1 w185 ho186 hO'
                            have hs187 := ho186.size
                            clear hO; have hO := hO'; clear hO'
                            have hz190 := ho186.size
                            replace hN := hN.out ho186 (by first | omega | (simp only [blk_some, hi1_some] at *; omega))
                            replace hTr := hTr.out ho186 (by first | omega | (simp only [blk_some, hi1_some] at *; omega))
                            replace hT := hT.out ho186 (by first | omega | (simp only [blk_some, hi1_some] at *; omega))
                            replace hE := hE.step ho186 (by first | omega | (simp only [blk_some, hi1_some] at *; omega))
                            replace hb5 := hb5.out ho186 (by first | omega | (simp only [blk_some, hi1_some] at *; omega))
                            replace hm := hm.out ho186 (by first | omega | (simp only [blk_some, hi1_some] at *; omega))
                            replace hb14 := hb14.out ho186 (by first | omega | (simp only [blk_some, hi1_some] at *; omega))
                            have hrnhC := hC.rng
                            replace hC := hC.out ho186 (by first | omega | (simp only [blk_some, hi1_some] at *; omega))
                            replace hlp1 := hlp1.step ho186 (by first | omega | (simp only [blk_some, hi1_some] at *; omega))
                            refine st (asS rfl) ?_
                            refine rg_end ?_
                            refine n_blk ?_
                            refine n_then ?_
                            refine rg ?_
                            refine st (mvI rfl) ?_
                            refine st (y_add rfl rfl (by omega)) ?_
                            refine st (asI rfl) ?_
                            refine rg_end ?_
                            exact n_then ⟨(k + 1, _, _, _), _, rfl, same_lk rfl (same_h0), ⟨rfl, rfl, trivial⟩, ⟨hlp1, by omega, hfe1, hO.wide (by omega)⟩, by first | omega | (dsimp only; omega)⟩
                          ·
                            try simp only [decide_eq_true_eq, decide_eq_false_iff_not, Bool.not_eq_true', Bool.not_eq_false', Bool.and_eq_true, Bool.or_eq_true, Bool.or_eq_false_iff, Bool.cond_true_right, Bool.cond_false_right, Bool.cond_true_left, Bool.cond_false_left, ne_eq, Decidable.not_not, bne_iff_ne, beq_iff_eq, beq_eq_false_iff_ne, Bool.not_true, Bool.not_false] at hc8
                            have hfe1 : f = pfF tree out into (k + 1) := by
                              rw [hfe, pfF_no (fun h => by
                                rcases h with h | ⟨h1, h2⟩
                                · first | exact absurd h (by assumption)
                                · first | exact absurd h2 (by assumption) | exact absurd (by assumption) h1)]
                            refine wp_skip ?_
                            refine n_blk ?_
                            refine n_then ?_
                            refine rg ?_
                            refine st (mvI rfl) ?_
                            refine st (y_add rfl rfl (by omega)) ?_
                            refine st (asI rfl) ?_
                            refine rg_end ?_
                            exact n_then ⟨(k + 1, _, _, _), _, rfl, same_lk rfl (same_h0), ⟨rfl, rfl, trivial⟩, ⟨hlp1, by omega, hfe1, hO.wide (by omega)⟩, by first | omega | (dsimp only; omega)⟩
                        ·
                          have hg173n := hg173; try simp only [decide_eq_true_eq, decide_eq_false_iff_not, Bool.not_eq_true', Bool.not_eq_false', Bool.and_eq_true, Bool.or_eq_true, Bool.or_eq_false_iff, Bool.cond_true_right, Bool.cond_false_right, Bool.cond_true_left, Bool.cond_false_left, ne_eq, Decidable.not_not, bne_iff_ne, beq_iff_eq, beq_eq_false_iff_ne, Bool.not_true, Bool.not_false] at hg173n
                          refine sts rfl rfl hg173 ?_
                          refine sts rfl rfl hg173 ?_
                          refine sts rfl rfl hg173 ?_
                          refine stg rfl rfl hg161 (y_pickF rfl hg173 (v := .bool _) rfl) ?_
                          refine st (y_pickF rfl hg161 (v := .bool _) rfl) ?_
                          refine rg_end ?_
                          refine n_then ?_
                          refine cnd rfl (fun hc8 => absurd hc8 (by decide)) (fun hc8 => ?_)
                          have hfe1 : f = pfF tree out into (k + 1) := by
                            rw [hfe, pfF_no (fun h => by
                              rcases h with h | ⟨h1, h2⟩
                              · first | exact absurd h (by assumption)
                              · first | exact absurd h2 (by assumption) | exact absurd (by assumption) h1)]
                          refine wp_skip ?_
                          refine n_blk ?_
                          refine n_then ?_
                          refine rg ?_
                          refine st (mvI rfl) ?_
                          refine st (y_add rfl rfl (by omega)) ?_
                          refine st (asI rfl) ?_
                          refine rg_end ?_
                          exact n_then ⟨(k + 1, _, _, _), _, rfl, same_lk rfl (same_h0), ⟨rfl, rfl, trivial⟩, ⟨hlp1, by omega, hfe1, hO.wide (by omega)⟩, by first | omega | (dsimp only; omega)⟩
                    ·
                      try simp only [decide_eq_true_eq, decide_eq_false_iff_not, Bool.not_eq_true', Bool.not_eq_false', Bool.and_eq_true, Bool.or_eq_true, Bool.or_eq_false_iff, Bool.cond_true_right, Bool.cond_false_right, Bool.cond_true_left, Bool.cond_false_left, ne_eq, Decidable.not_not, bne_iff_ne, beq_iff_eq, beq_eq_false_iff_ne, Bool.not_true, Bool.not_false] at hc7
                      have hkk : k = N.acts.length := by omega
                      subst hkk
                      refine wp_exit ?_
                      refine e_then (e_then (e_blk (?_)))
                      refine n_then ?_
                      refine wp_seq ?_
                      refine rg ?_
                      refine st (mvS rfl) ?_
                      refine st (mvS rfl) ?_
                      refine st (asS rfl) ?_
                      refine st (asS rfl) ?_
                      refine st (asI rfl) ?_
                      refine rg_end ?_
                      refine n_then ?_
                      refine wp_ret ?_
                      refine ret3 (v := (.slice _ _ _)) (v' := (.slice _ _ _)) (v'' := (.int .i64 _)) Try.results52 rfl rfl rfl ?_
                      exact ⟨ao, co, f, a16, c16, T, 0, by first | rfl | rw [hTl], Sl.wide (Ow.sl hO) (by omega) (by omega), Sl.wide (Ow.sl hC) (by omega) (by omega), ⟨fun h => absurd ⟨hfo, hc0⟩ h, fun _ _ h => absurd hma h, fun _ _ _ h => (by rw [hc6] at h; cases h), fun _ _ _ _ => ⟨hfe, hTe, rfl⟩⟩, hE⟩

theorem moveB_a {N : Net} {tree t : List Int} {out : Int} {k : Nat} (h : moveB N tree t out (k : Int) = true) (ho : out ∈ tree) (hk : k < N.acts.length) : MvA N tree out (k : Int) := by
  unfold moveB at h
  rw [Bool.and_eq_true, Bool.and_eq_true, decide_eq_true_eq] at h
  exact ⟨ho, by omega, by omega, h.1.1, h.1.2⟩
theorem moveB_f {N : Net} {tree t : List Int} {out into : Int} (h : moveB N tree t out into = true) : feas N (moveT N tree t out into) = true := by
  unfold moveB at h
  rw [Bool.and_eq_true] at h; exact h.2
theorem moveB_of {N : Net} {tree t : List Int} {out into : Int} (h : MvA N tree out into) (hf : feas N (moveT N tree t out into) = true) : moveB N tree t out into = true := by
  unfold moveB
  rw [Bool.and_eq_true, Bool.and_eq_true, decide_eq_true_eq]
  exact ⟨⟨h.ne, h.xs⟩, hf⟩

set_option maxHeartbeats 2000000 in
set_option maxRecDepth 100000 in
theorem ref13_Best_ok (N : Net) (A : NetA) (lo hi : Nat) (tree : List Int) (ar : Option Addr) (cr lr hr_ : Nat) (t : List Int) (at_ : Option Addr) (ct : Nat) (lt ht : Nat) (w : World) (hN : NetIn lo hi w N A) (hTr : Ints lr hr_ w ar tree) (htn : (tree.length : Int) ≤ 9223372036854775807) (hT : Ints lt ht w at_ t)  : Cal Try.prog 53 [netV N A, .slice ar tree.length cr, .slice at_ t.length ct] w (fun v w' => ∃ o n_ ob e, v = .tuple #[.int .i64 o, .int .i64 n_, .bool ob, .int .i64 e] ∧ BsR N tree t o n_ ob e ∧ Ext w w') := by
  replace hN := hN.full
  replace hTr := Ints.full hTr
  replace hT := Ints.full hT
  have hE : Out 0 0 w w := Out.refl _ _ w
  refine enter Try.func53 rfl Try.ntmps53 rfl ?_
  refine wp_seq ?_
  refine rg ?_
  refine sd (d_boxA rfl ?_)
  intro b3 w1 hbb3 hs3 ho2 hb3
  have hz4 := ho2.size
  replace hN := hN.ext ho2
  replace hTr := hTr.ext ho2
  replace hT := hT.ext ho2
  replace hE := hE.step ho2 (.inl (Nat.le_refl _))
  refine st (asI rfl) ?_
  refine st (asI rfl) ?_
  refine st (asB rfl) ?_
  refine st (asI rfl) ?_
  refine rg_end ?_
  refine n_then ?_
  refine wp_seq ?_
  refine wp_seq ?_
  refine rg ?_
  refine st (y_lbN hb3 agg26 rfl) ?_
  refine st (mvS rfl) ?_
  refine sc cl22 (ref11_Forest_ok N A _ _ tree _ _ _ _ _ hN hTr (by omega)) rfl ?_
  rintro v9 w5 ⟨b, rfl, hb, ho6⟩
  have hz10 := ho6.size
  replace hN := hN.ext ho6
  replace hTr := hTr.ext ho6
  replace hT := hT.ext ho6
  replace hE := hE.step ho6 (.inl (Nat.le_refl _))
  replace hb3 := hb3.ext ho6
  refine st (y_not rfl) ?_
  refine st (mvB rfl) ?_
  refine gspL 23 rfl (fun hg11 => ?_) (fun hg11 => ?_)
  ·
    have hg11n := hg11; try simp only [decide_eq_true_eq, decide_eq_false_iff_not, Bool.not_eq_true', Bool.not_eq_false', Bool.and_eq_true, Bool.or_eq_true, Bool.or_eq_false_iff, Bool.cond_true_right, Bool.cond_false_right, Bool.cond_true_left, Bool.cond_false_left, ne_eq, Decidable.not_not, bne_iff_ne, beq_iff_eq, beq_eq_false_iff_ne, Bool.not_true, Bool.not_false] at hg11n
    refine sts rfl rfl hg11 ?_
    refine sts rfl rfl hg11 ?_
    refine sts rfl rfl hg11 ?_
    refine sts rfl rfl hg11 ?_
    refine st (y_pickT rfl hg11 (v := .bool _) rfl) ?_
    refine rg_end ?_
    refine n_then ?_
    refine cnd rfl (fun hc0 => ?_) (fun hc0 => absurd hc0 (by decide))
    have hno : ¬ (FoOk N tree ∧ feas N t = true) := fun h => by
      have h1 := hb.2 h.1
      have h2 := h.2
      first
      | (rw [show b = false by assumption] at h1; cases h1)
      | (rw [show feas N t = false by assumption] at h2; cases h2)
    refine wp_seq ?_
    refine rg ?_
    refine st (asI rfl) ?_
    refine st (asI rfl) ?_
    refine st (asB rfl) ?_
    refine st (asI rfl) ?_
    refine rg_end ?_
    refine n_then ?_
    refine wp_ret ?_
    refine r_then (ret4 (v := (.int .i64 _)) (v' := (.int .i64 _)) (v'' := (.bool _)) (v3 := (.int .i64 _)) Try.results53 rfl rfl rfl rfl ?_)
    exact ⟨0, 0, false, 1, rfl, ⟨fun _ => ⟨rfl, rfl, rfl, rfl⟩, fun h1 h2 => absurd ⟨h1, h2⟩ hno⟩, hE⟩
  ·
    have hg11n := hg11; try simp only [decide_eq_true_eq, decide_eq_false_iff_not, Bool.not_eq_true', Bool.not_eq_false', Bool.and_eq_true, Bool.or_eq_true, Bool.or_eq_false_iff, Bool.cond_true_right, Bool.cond_false_right, Bool.cond_true_left, Bool.cond_false_left, ne_eq, Decidable.not_not, bne_iff_ne, beq_iff_eq, beq_eq_false_iff_ne, Bool.not_true, Bool.not_false] at hg11n
    refine stg rfl rfl hg11 (y_lbN hb3 agg26 rfl) ?_
    refine stg rfl rfl hg11 (mvS rfl) ?_
    refine scg rfl rfl hg11 cl23 (ref11_Feasible_ok N A _ _ t _ _ _ _ _ hN hT) rfl ?_
    rintro v16 w12 ⟨rfl, ho13⟩
    have hz17 := ho13.size
    replace hN := hN.ext ho13
    replace hTr := hTr.ext ho13
    replace hT := hT.ext ho13
    replace hE := hE.step ho13 (.inl (Nat.le_refl _))
    replace hb3 := hb3.ext ho13
    refine stg rfl rfl hg11 (y_not rfl) ?_
    refine st (y_pickF rfl hg11 (v := .bool _) rfl) ?_
    refine rg_end ?_
    refine n_then ?_
    refine cnd rfl (fun hc0 => ?_) (fun hc0 => ?_)
    ·
      try simp only [decide_eq_true_eq, decide_eq_false_iff_not, Bool.not_eq_true', Bool.not_eq_false', Bool.and_eq_true, Bool.or_eq_true, Bool.or_eq_false_iff, Bool.cond_true_right, Bool.cond_false_right, Bool.cond_true_left, Bool.cond_false_left, ne_eq, Decidable.not_not, bne_iff_ne, beq_iff_eq, beq_eq_false_iff_ne, Bool.not_true, Bool.not_false] at hc0
      have hno : ¬ (FoOk N tree ∧ feas N t = true) := fun h => by
        have h1 := hb.2 h.1
        have h2 := h.2
        first
        | (rw [show b = false by assumption] at h1; cases h1)
        | (rw [show feas N t = false by assumption] at h2; cases h2)
      refine wp_seq ?_
      refine rg ?_
      refine st (asI rfl) ?_
      refine st (asI rfl) ?_
      refine st (asB rfl) ?_
      refine st (asI rfl) ?_
      refine rg_end ?_
      refine n_then ?_
      refine wp_ret ?_
      refine r_then (ret4 (v := (.int .i64 _)) (v' := (.int .i64 _)) (v'' := (.bool _)) (v3 := (.int .i64 _)) Try.results53 rfl rfl rfl rfl ?_)
      exact ⟨0, 0, false, 1, rfl, ⟨fun _ => ⟨rfl, rfl, rfl, rfl⟩, fun h1 h2 => absurd ⟨h1, h2⟩ hno⟩, hE⟩
    ·
      try simp only [decide_eq_true_eq, decide_eq_false_iff_not, Bool.not_eq_true', Bool.not_eq_false', Bool.and_eq_true, Bool.or_eq_true, Bool.or_eq_false_iff, Bool.cond_true_right, Bool.cond_false_right, Bool.cond_true_left, Bool.cond_false_left, ne_eq, Decidable.not_not, bne_iff_ne, beq_iff_eq, beq_eq_false_iff_ne, Bool.not_true, Bool.not_false] at hc0
      have hbt : b = true := by assumption
      have hfo := hb.1 hbt
      have hok := hfo.ok
      have hac := hok.ac
      have hg := (feas_iff.1 hc0).1
      refine wp_skip ?_
      refine n_then ?_
      refine wp_seq ?_
      refine rg ?_
      refine st (y_lbN hb3 agg26 rfl) ?_
      refine st (mvS rfl) ?_
      refine sc cl26 (ref11_Cost_ok N A _ _ t _ _ _ _ _ hN hT) rfl ?_
      rintro v22 w18 ⟨cb, ecb, rfl, gcb, bcb, ho19⟩
      have hcb : cb = costD N t := (gcb (goodT_iff.2 hg)).1
      have hz23 := ho19.size
      replace hN := hN.ext ho19
      replace hTr := hTr.ext ho19
      replace hT := hT.ext ho19
      replace hE := hE.step ho19 (.inl (Nat.le_refl _))
      replace hb3 := hb3.ext ho19
      refine st (mvT rfl) ?_
      refine st (y_ext rfl rfl) ?_
      refine st (y_ext rfl rfl) ?_
      refine st (asI rfl) ?_
      refine st (asI rfl) ?_
      refine rg_end ?_
      refine n_then ?_
      refine wp_seq ?_
      refine wp_seq ?_
      refine rg ?_
      refine st (asI rfl) ?_
      refine rg_end ?_
      refine n_then ?_
      refine wp_block ?_
      rw [hcb]
      refine lp (γ := Nat) [6, 7, 8, 10, 12, 13, 14, 15, 16, 17, 18, 35, 36, 37, 38, 39, 40, 41, 42, 43, 44, 45, 46, 47, 48, 49, 50, 51, 52, 53, 54, 55, 56, 57, 58, 59, 60, 61, 62, 63, 64, 65, 66, 67, 68, 69, 70, 71, 72, 73, 74, 75, 76, 77] (fun i => [(12, .int .i64 (i : Int)), (10, .int .i64 (bsR N tree t i).c), (6, .int .i64 (bsR N tree t i).o), (7, .int .i64 (bsR N tree t i).i), (8, .bool (bsR N tree t i).ok)]) (fun i w_ => Ext w18 w_ ∧ (i : Int) ≤ tree.length) (fun i => tree.length - i) 0 ⟨rfl, rfl, rfl, rfl, rfl, trivial⟩ ⟨Out.refl _ _ _, by omega⟩ ?_
      rintro i hav_ w24 ⟨ho25, hi_⟩
      have hlp0 := ho25
      have hz26 := ho25.size
      replace hN := hN.ext ho25
      replace hTr := hTr.ext ho25
      replace hT := hT.ext ho25
      replace hE := hE.step ho25 (.inl (Nat.le_refl _))
      replace hb3 := hb3.ext ho25
      refine wp_seq ?_
      refine wp_seq ?_
      refine rg ?_
      refine st (mvI rfl) ?_
      refine st (mvS rfl) ?_
      refine st (y_len Try.underlying22 rfl) ?_
      refine st (y_lss rfl rfl) ?_
      refine rg_end ?_
      refine n_then ?_
      refine cnd rfl (fun hc1 => ?_) (fun hc1 => ?_)
      ·
        try simp only [decide_eq_true_eq, decide_eq_false_iff_not, Bool.not_eq_true', Bool.not_eq_false', Bool.and_eq_true, Bool.or_eq_true, Bool.or_eq_false_iff, Bool.cond_true_right, Bool.cond_false_right, Bool.cond_true_left, Bool.cond_false_left, ne_eq, Decidable.not_not, bne_iff_ne, beq_iff_eq, beq_eq_false_iff_ne, Bool.not_true, Bool.not_false] at hc1
        refine wp_skip ?_
        refine n_then ?_
        refine wp_seq ?_
        refine wp_block ?_
        refine wp_seq ?_
        refine rg ?_
        refine st (asI rfl) ?_
        refine rg_end ?_
        refine n_then ?_
        refine wp_block ?_
        refine lp (γ := Nat) [6, 7, 8, 10, 13, 14, 15, 16, 17, 18, 41, 42, 43, 44, 45, 46, 47, 48, 49, 50, 51, 52, 53, 54, 55, 56, 57, 58, 59, 60, 61, 62, 63, 64, 65, 66, 67, 68, 69, 70, 71, 72, 73, 74, 75, 76, 77] (fun k => [(13, .int .i64 (k : Int)), (10, .int .i64 (bsI N tree t (el tree (i : Int)) (bsR N tree t i) k).c), (6, .int .i64 (bsI N tree t (el tree (i : Int)) (bsR N tree t i) k).o), (7, .int .i64 (bsI N tree t (el tree (i : Int)) (bsR N tree t i) k).i), (8, .bool (bsI N tree t (el tree (i : Int)) (bsR N tree t i) k).ok)]) (fun k w_ => Ext w24 w_ ∧ (k : Int) ≤ N.acts.length) (fun k => N.acts.length - k) 0 ⟨rfl, rfl, rfl, rfl, rfl, trivial⟩ ⟨Out.refl _ _ _, by omega⟩ ?_
        rintro k hav_ w27 ⟨ho28, hk_⟩
        have hlp1 := ho28
        have hz29 := ho28.size
        replace hN := hN.ext ho28
        replace hTr := hTr.ext ho28
        replace hT := hT.ext ho28
        replace hE := hE.step ho28 (.inl (Nat.le_refl _))
        replace hb3 := hb3.ext ho28
        replace hlp0 := hlp0.step ho28 (.inl (Nat.le_refl _))
        refine wp_seq ?_
        refine wp_seq ?_
        refine rg ?_
        refine st (mvI rfl) ?_
        refine st (y_fld fld26_2 rfl) ?_
        refine st (y_lb hb3 na24 rfl rfl) ?_
        refine st (y_len Try.underlying24 rfl) ?_
        refine st (y_lss rfl rfl) ?_
        refine rg_end ?_
        refine n_then ?_
        refine cnd rfl (fun hc2 => ?_) (fun hc2 => ?_)
        ·
          try simp only [decide_eq_true_eq, decide_eq_false_iff_not, Bool.not_eq_true', Bool.not_eq_false', Bool.and_eq_true, Bool.or_eq_true, Bool.or_eq_false_iff, Bool.cond_true_right, Bool.cond_false_right, Bool.cond_true_left, Bool.cond_false_left, ne_eq, Decidable.not_not, bne_iff_ne, beq_iff_eq, beq_eq_false_iff_ne, Bool.not_true, Bool.not_false] at hc2
          refine wp_skip ?_
          refine n_then ?_
          refine wp_seq ?_
          refine wp_block ?_
          refine wp_seq ?_
          refine rgD 15 (fun w_ => Ext w27 w_) (fun i => Nat.beq i 8) mixed (by kernel_rfl) ?_
          intro w30 ho31 hs32
          refine ⟨ho31, ?_⟩
          have hx33 := ho31
          refine tn rfl (fun _ hG => y_lbN (hb3.ext hG) agg26 rfl) ?_
          refine tn rfl (fun _ hG => mvS rfl) ?_
          refine tn rfl (fun _ hG => mvS rfl) ?_
          refine tn rfl (fun _ hG => mvS rfl) ?_
          refine tn rfl (fun _ hG => mvI rfl) ?_
          refine tn rfl (fun _ hG => y_ix (hTr.ext hG) sl22 rfl (rfl) rfl (by omega) (by omega)) ?_
          refine tn rfl (fun _ hG => y_le (hTr.ext hG) na3 rfl (by omega) (by omega) rfl) ?_
          refine tn rfl (fun _ hG => mvI rfl) ?_
          refine tc rfl cl52 (ref13_Move_ok N A _ _ tree _ _ _ _ t _ _ _ _ (el tree (i : Int)) (k : Int) _ (hN.ext hx33) (hTr.ext hx33) (by omega) (hT.ext hx33) (by omega)) rfl ?_
          rintro v38 w34 ⟨af, cf, f, a1, c1, Tn, e, rfl, hF, hTn, hmr, ho35⟩
          have hmi := el_mem (l := tree) (i := (i : Int)) (by omega) (by omega)
          have hx39 := hx33.step ho35 (.inl (Nat.le_refl _))
          have hz40 := ho35.size
          refine ⟨hx39, ?_⟩
          refine tn rfl (fun _ hG => mvT rfl) ?_
          refine tn rfl (fun _ hG => y_ext rfl rfl) ?_
          refine tn rfl (fun _ hG => y_ext rfl rfl) ?_
          refine tn rfl (fun _ hG => y_ext rfl rfl) ?_
          refine tn rfl (fun _ hG => asS rfl) ?_
          refine tn rfl (fun _ hG => asS rfl) ?_
          refine t_end ?_
          have hz41 := hx39.size
          replace hN := hN.ext hx39
          replace hTr := hTr.ext hx39
          replace hT := hT.ext hx39
          replace hE := hE.step hx39 (.inl (Nat.le_refl _))
          replace hb3 := hb3.ext hx39
          replace hlp0 := hlp0.step hx39 (.inl (Nat.le_refl _))
          replace hlp1 := hlp1.step hx39 (.inl (Nat.le_refl _))
          refine st (asI rfl) ?_
          refine rg_end ?_
          refine n_then ?_
          refine wp_seq ?_
          refine wp_seq ?_
          refine rg ?_
          refine st (mvI rfl) ?_
          refine st (y_neq rfl rfl) ?_
          refine rg_end ?_
          refine n_then ?_
          refine cnd rfl (fun hc3 => ?_) (fun hc3 => ?_)
          ·
            try simp only [decide_eq_true_eq, decide_eq_false_iff_not, Bool.not_eq_true', Bool.not_eq_false', Bool.and_eq_true, Bool.or_eq_true, Bool.or_eq_false_iff, Bool.cond_true_right, Bool.cond_false_right, Bool.cond_true_left, Bool.cond_false_left, ne_eq, Decidable.not_not, bne_iff_ne, beq_iff_eq, beq_eq_false_iff_ne, Bool.not_true, Bool.not_false] at hc3
            have hst : bsI N tree t (el tree (i : Int)) (bsR N tree t i) (k + 1) = bsI N tree t (el tree (i : Int)) (bsR N tree t i) k := by
              show bsS N tree t _ k _ = _
              unfold bsS
              rw [if_neg (fun hx => hc3 (hmr.d hfo hc0 (moveB_a hx.1 hmi (by omega)) (moveB_f hx.1)).2.2)]
            refine wp_exit ?_
            refine e_then (e_blk (?_))
            refine n_then ?_
            refine rg ?_
            refine st (mvI rfl) ?_
            refine st (y_add rfl rfl (by omega)) ?_
            refine st (asI rfl) ?_
            refine rg_end ?_
            exact n_then ⟨k + 1, _, rfl, same_lk rfl (same_h0), ⟨rfl, vi (congrArg BSt.c hst.symm), vi (congrArg BSt.o hst.symm), vi (congrArg BSt.i hst.symm), congrArg Value.bool (congrArg BSt.ok hst.symm), trivial⟩, ⟨hlp1, by omega⟩, by first | omega | (dsimp only; omega)⟩
          ·
            try simp only [decide_eq_true_eq, decide_eq_false_iff_not, Bool.not_eq_true', Bool.not_eq_false', Bool.and_eq_true, Bool.or_eq_true, Bool.or_eq_false_iff, Bool.cond_true_right, Bool.cond_false_right, Bool.cond_true_left, Bool.cond_false_left, ne_eq, Decidable.not_not, bne_iff_ne, beq_iff_eq, beq_eq_false_iff_ne, Bool.not_true, Bool.not_false] at hc3
            obtain ⟨hma, hmf⟩ : MvA N tree (el tree (i : Int)) (k : Int) ∧ feas N (moveT N tree t (el tree (i : Int)) (k : Int)) = true := by
              by_cases q1 : MvA N tree (el tree (i : Int)) (k : Int)
              · cases q2 : feas N (moveT N tree t (el tree (i : Int)) (k : Int)) with
                | true => exact ⟨q1, rfl⟩
                | false => have := (hmr.c hfo hc0 q1 q2).2.2; omega
              · have := (hmr.b hfo hc0 q1).2.2; omega
            obtain ⟨rfl, rfl, rfl⟩ := hmr.d hfo hc0 hma hmf
            refine wp_skip ?_
            refine n_then ?_
            refine wp_seq ?_
            refine rg ?_
            refine st (y_lbN hb3 agg26 rfl) ?_
            refine st (mvS rfl) ?_
            refine sc cl26 (ref11_Cost_ok N A _ _ (moveT N tree t (el tree (i : Int)) (k : Int)) _ _ _ _ _ hN hTn) rfl ?_
            rintro v46 w42 ⟨cn, ecn, rfl, gcn, bcn, ho43⟩
            have hcn : cn = costD N (moveT N tree t (el tree (i : Int)) (k : Int)) := (gcn (goodT_iff.2 (feas_iff.1 hmf).1)).1
            have hz47 := ho43.size
            replace hN := hN.ext ho43
            replace hTr := hTr.ext ho43
            replace hT := hT.ext ho43
            replace hE := hE.step ho43 (.inl (Nat.le_refl _))
            replace hb3 := hb3.ext ho43
            replace hlp0 := hlp0.step ho43 (.inl (Nat.le_refl _))
            replace hlp1 := hlp1.step ho43 (.inl (Nat.le_refl _))
            replace hF := hF.ext ho43
            replace hTn := hTn.ext ho43
            refine st (mvT rfl) ?_
            refine st (y_ext rfl rfl) ?_
            refine st (y_ext rfl rfl) ?_
            refine st (asI rfl) ?_
            refine st (asI rfl) ?_
            refine rg_end ?_
            refine n_then ?_
            refine wp_seq ?_
            refine rg ?_
            refine st (mvI rfl) ?_
            refine st (mvI rfl) ?_
            refine st (y_lss rfl rfl) ?_
            refine rg_end ?_
            refine n_then ?_
            refine cnd rfl (fun hc4 => ?_) (fun hc4 => ?_)
            ·
              try simp only [decide_eq_true_eq, decide_eq_false_iff_not, Bool.not_eq_true', Bool.not_eq_false', Bool.and_eq_true, Bool.or_eq_true, Bool.or_eq_false_iff, Bool.cond_true_right, Bool.cond_false_right, Bool.cond_true_left, Bool.cond_false_left, ne_eq, Decidable.not_not, bne_iff_ne, beq_iff_eq, beq_eq_false_iff_ne, Bool.not_true, Bool.not_false] at hc4
              have hst : bsI N tree t (el tree (i : Int)) (bsR N tree t i) (k + 1) = ⟨el tree (i : Int), (k : Int), true, cn⟩ := by
                show bsS N tree t _ k _ = _
                unfold bsS
                rw [if_pos ⟨moveB_of hma hmf, by rw [← hcn]; exact hc4⟩, hcn]
              refine rgD 8 (fun w_ => Ext w42 w_) (fun i => false) mixed (by kernel_rfl) ?_
              intro w48 ho49 hs50
              refine ⟨ho49, ?_⟩
              have hx51 := ho49
              refine tn rfl (fun _ hG => mvI rfl) ?_
              refine tn rfl (fun _ hG => mvS rfl) ?_
              refine tn rfl (fun _ hG => mvI rfl) ?_
              refine tn rfl (fun _ hG => y_ix (hTr.ext hG) sl22 rfl (rfl) rfl (by omega) (by omega)) ?_
              refine tn rfl (fun _ hG => y_le (hTr.ext hG) na3 rfl (by omega) (by omega) rfl) ?_
              refine tn rfl (fun _ hG => mvI rfl) ?_
              refine tn rfl (fun _ hG => asI rfl) ?_
              refine tn rfl (fun _ hG => asI rfl) ?_
              refine t_end ?_
              have hz52 := hx51.size
              replace hN := hN.ext hx51
              replace hTr := hTr.ext hx51
              replace hT := hT.ext hx51
              replace hE := hE.step hx51 (.inl (Nat.le_refl _))
              replace hb3 := hb3.ext hx51
              replace hlp0 := hlp0.step hx51 (.inl (Nat.le_refl _))
              replace hlp1 := hlp1.step hx51 (.inl (Nat.le_refl _))
              replace hF := hF.ext hx51
              replace hTn := hTn.ext hx51
              refine st (asI rfl) ?_
              refine st (asB rfl) ?_
              refine rg_end ?_
              refine n_blk ?_
              refine n_then ?_
              refine rg ?_
              refine st (mvI rfl) ?_
              refine st (y_add rfl rfl (by omega)) ?_
              refine st (asI rfl) ?_
              refine rg_end ?_
              exact n_then ⟨k + 1, _, rfl, same_lk rfl (same_h0), ⟨rfl, vi (congrArg BSt.c hst.symm), vi (congrArg BSt.o hst.symm), vi (congrArg BSt.i hst.symm), congrArg Value.bool (congrArg BSt.ok hst.symm), trivial⟩, ⟨hlp1, by omega⟩, by first | omega | (dsimp only; omega)⟩
            ·
              try simp only [decide_eq_true_eq, decide_eq_false_iff_not, Bool.not_eq_true', Bool.not_eq_false', Bool.and_eq_true, Bool.or_eq_true, Bool.or_eq_false_iff, Bool.cond_true_right, Bool.cond_false_right, Bool.cond_true_left, Bool.cond_false_left, ne_eq, Decidable.not_not, bne_iff_ne, beq_iff_eq, beq_eq_false_iff_ne, Bool.not_true, Bool.not_false] at hc4
              have hst : bsI N tree t (el tree (i : Int)) (bsR N tree t i) (k + 1) = bsI N tree t (el tree (i : Int)) (bsR N tree t i) k := by
                show bsS N tree t _ k _ = _
                unfold bsS
                rw [if_neg (fun hx => hc4 (by rw [hcn]; exact hx.2))]
              refine wp_skip ?_
              refine n_blk ?_
              refine n_then ?_
              refine rg ?_
              refine st (mvI rfl) ?_
              refine st (y_add rfl rfl (by omega)) ?_
              refine st (asI rfl) ?_
              refine rg_end ?_
              exact n_then ⟨k + 1, _, rfl, same_lk rfl (same_h0), ⟨rfl, vi (congrArg BSt.c hst.symm), vi (congrArg BSt.o hst.symm), vi (congrArg BSt.i hst.symm), congrArg Value.bool (congrArg BSt.ok hst.symm), trivial⟩, ⟨hlp1, by omega⟩, by first | omega | (dsimp only; omega)⟩
        ·
          try simp only [decide_eq_true_eq, decide_eq_false_iff_not, Bool.not_eq_true', Bool.not_eq_false', Bool.and_eq_true, Bool.or_eq_true, Bool.or_eq_false_iff, Bool.cond_true_right, Bool.cond_false_right, Bool.cond_true_left, Bool.cond_false_left, ne_eq, Decidable.not_not, bne_iff_ne, beq_iff_eq, beq_eq_false_iff_ne, Bool.not_true, Bool.not_false] at hc2
          have hke : k = N.acts.length := by omega
          subst hke
          refine wp_exit ?_
          refine e_then (e_then (e_blk (?_)))
          refine n_blk ?_
          refine n_then ?_
          refine rg ?_
          refine st (mvI rfl) ?_
          refine st (y_add rfl rfl (by omega)) ?_
          refine st (asI rfl) ?_
          refine rg_end ?_
          exact n_then ⟨i + 1, _, rfl, same_lk rfl (same_hav rfl (same_lk rfl (same_h0))), ⟨rfl, rfl, rfl, rfl, rfl, trivial⟩, ⟨hlp0, by omega⟩, by first | omega | (dsimp only; omega)⟩
      ·
        try simp only [decide_eq_true_eq, decide_eq_false_iff_not, Bool.not_eq_true', Bool.not_eq_false', Bool.and_eq_true, Bool.or_eq_true, Bool.or_eq_false_iff, Bool.cond_true_right, Bool.cond_false_right, Bool.cond_true_left, Bool.cond_false_left, ne_eq, Decidable.not_not, bne_iff_ne, beq_iff_eq, beq_eq_false_iff_ne, Bool.not_true, Bool.not_false] at hc1
        have hie : i = tree.length := by omega
        subst hie
        refine wp_exit ?_
        refine e_then (e_then (e_blk (?_)))
        refine n_then ?_
        refine wp_seq ?_
        refine rg ?_
        refine st (mvI rfl) ?_
        refine st (mvI rfl) ?_
        refine st (mvB rfl) ?_
        refine st (asI rfl) ?_
        refine st (asI rfl) ?_
        refine st (asB rfl) ?_
        refine st (asI rfl) ?_
        refine rg_end ?_
        refine n_then ?_
        refine wp_ret ?_
        refine ret4 (v := (.int .i64 _)) (v' := (.int .i64 _)) (v'' := (.bool _)) (v3 := (.int .i64 _)) Try.results53 rfl rfl rfl rfl ?_
        exact ⟨_, _, _, 0, rfl, ⟨fun h => absurd ⟨hfo, hc0⟩ h, fun _ _ => ⟨rfl, rfl, rfl, rfl⟩⟩, hE⟩

set_option maxHeartbeats 2000000 in
set_option maxRecDepth 100000 in
theorem ref13_Simplex_ok (N : Net) (A : NetA) (lo hi : Nat) (tree : List Int) (ar : Option Addr) (cr lr hr_ : Nat) (t : List Int) (at_ : Option Addr) (ct : Nat) (lt ht : Nat) (B : Int) (w : World) (hN : NetIn lo hi w N A) (hTr : Ints lr hr_ w ar tree) (htn : (tree.length : Int) ≤ 9223372036854775807) (hT : Ints lt ht w at_ t)  : Cal Try.prog 54 [netV N A, .slice ar tree.length cr, .slice at_ t.length ct, .int .i64 B] w (fun v w' => ∃ af cf f a1 c1 y mv e, v = .tuple #[.slice af f.length cf, .slice a1 y.length c1, .int .i64 mv, .int .i64 e] ∧ Ints 0 w'.heap.size w' af f ∧ Ints 0 w'.heap.size w' a1 y ∧ SmR N tree t B f y mv e ∧ Ext w w') := by
  replace hN := hN.full
  replace hTr := Ints.full hTr
  replace hT := Ints.full hT
  have hE : Out 0 0 w w := Out.refl _ _ w
  refine enter Try.func54 rfl Try.ntmps54 rfl ?_
  refine wp_seq ?_
  refine rg ?_
  refine sd (d_boxA rfl ?_)
  intro b4 w1 hbb4 hs3 ho2 hb4
  have hz4 := ho2.size
  replace hN := hN.ext ho2
  replace hTr := hTr.ext ho2
  replace hT := hT.ext ho2
  replace hE := hE.step ho2 (.inl (Nat.le_refl _))
  refine st (asS rfl) ?_
  refine st (asS rfl) ?_
  refine st (asI rfl) ?_
  refine st (asI rfl) ?_
  refine rg_end ?_
  refine n_then ?_
  refine wp_seq ?_
  refine wp_seq ?_
  refine rg ?_
  refine st (y_lbN hb4 agg26 rfl) ?_
  refine st (mvS rfl) ?_
  refine sc cl22 (ref11_Forest_ok N A _ _ tree _ _ _ _ _ hN hTr (by omega)) rfl ?_
  rintro v9 w5 ⟨b, rfl, hb, ho6⟩
  have hz10 := ho6.size
  replace hN := hN.ext ho6
  replace hTr := hTr.ext ho6
  replace hT := hT.ext ho6
  replace hE := hE.step ho6 (.inl (Nat.le_refl _))
  replace hb4 := hb4.ext ho6
  refine st (y_not rfl) ?_
  refine st (mvB rfl) ?_
  refine gspL 21 rfl (fun hg11 => ?_) (fun hg11 => ?_)
  ·
    have hg11n := hg11; try simp only [decide_eq_true_eq, decide_eq_false_iff_not, Bool.not_eq_true', Bool.not_eq_false', Bool.and_eq_true, Bool.or_eq_true, Bool.or_eq_false_iff, Bool.cond_true_right, Bool.cond_false_right, Bool.cond_true_left, Bool.cond_false_left, ne_eq, Decidable.not_not, bne_iff_ne, beq_iff_eq, beq_eq_false_iff_ne, Bool.not_true, Bool.not_false] at hg11n
    refine sts rfl rfl hg11 ?_
    refine sts rfl rfl hg11 ?_
    refine sts rfl rfl hg11 ?_
    refine sts rfl rfl hg11 ?_
    refine st (y_pickT rfl hg11 (v := .bool _) rfl) ?_
    refine rg_end ?_
    refine n_then ?_
    refine cnd rfl (fun hc0 => ?_) (fun hc0 => absurd hc0 (by decide))
    have hno : ¬ (FoOk N tree ∧ feas N t = true) := fun h => by
      have h1 := hb.2 h.1
      have h2 := h.2
      first
      | (rw [show b = false by assumption] at h1; cases h1)
      | (rw [show feas N t = false by assumption] at h2; cases h2)
    refine wp_seq ?_
    refine rg ?_
    refine st (asS rfl) ?_
    refine st (asS rfl) ?_
    refine st (asI rfl) ?_
    refine st (asI rfl) ?_
    refine rg_end ?_
    refine n_then ?_
    refine wp_ret ?_
    refine r_then (ret4 (v := (.slice _ _ _)) (v' := (.slice _ _ _)) (v'' := (.int .i64 _)) (v3 := (.int .i64 _)) Try.results54 rfl rfl rfl rfl ?_)
    exact ⟨none, 0, [], none, 0, [], 0, 1, rfl, nilS0, nilS0, ⟨fun _ => ⟨rfl, rfl, rfl, rfl⟩, fun h1 h2 => absurd ⟨h1, h2⟩ hno, fun h1 h2 => absurd ⟨h1, h2⟩ hno⟩, hE⟩
  ·
    have hg11n := hg11; try simp only [decide_eq_true_eq, decide_eq_false_iff_not, Bool.not_eq_true', Bool.not_eq_false', Bool.and_eq_true, Bool.or_eq_true, Bool.or_eq_false_iff, Bool.cond_true_right, Bool.cond_false_right, Bool.cond_true_left, Bool.cond_false_left, ne_eq, Decidable.not_not, bne_iff_ne, beq_iff_eq, beq_eq_false_iff_ne, Bool.not_true, Bool.not_false] at hg11n
    refine stg rfl rfl hg11 (y_lbN hb4 agg26 rfl) ?_
    refine stg rfl rfl hg11 (mvS rfl) ?_
    refine scg rfl rfl hg11 cl23 (ref11_Feasible_ok N A _ _ t _ _ _ _ _ hN hT) rfl ?_
    rintro v16 w12 ⟨rfl, ho13⟩
    have hz17 := ho13.size
    replace hN := hN.ext ho13
    replace hTr := hTr.ext ho13
    replace hT := hT.ext ho13
    replace hE := hE.step ho13 (.inl (Nat.le_refl _))
    replace hb4 := hb4.ext ho13
    refine stg rfl rfl hg11 (y_not rfl) ?_
    refine st (y_pickF rfl hg11 (v := .bool _) rfl) ?_
    refine rg_end ?_
    refine n_then ?_
    refine cnd rfl (fun hc0 => ?_) (fun hc0 => ?_)
    ·
      try simp only [decide_eq_true_eq, decide_eq_false_iff_not, Bool.not_eq_true', Bool.not_eq_false', Bool.and_eq_true, Bool.or_eq_true, Bool.or_eq_false_iff, Bool.cond_true_right, Bool.cond_false_right, Bool.cond_true_left, Bool.cond_false_left, ne_eq, Decidable.not_not, bne_iff_ne, beq_iff_eq, beq_eq_false_iff_ne, Bool.not_true, Bool.not_false] at hc0
      have hno : ¬ (FoOk N tree ∧ feas N t = true) := fun h => by
        have h1 := hb.2 h.1
        have h2 := h.2
        first
        | (rw [show b = false by assumption] at h1; cases h1)
        | (rw [show feas N t = false by assumption] at h2; cases h2)
      refine wp_seq ?_
      refine rg ?_
      refine st (asS rfl) ?_
      refine st (asS rfl) ?_
      refine st (asI rfl) ?_
      refine st (asI rfl) ?_
      refine rg_end ?_
      refine n_then ?_
      refine wp_ret ?_
      refine r_then (ret4 (v := (.slice _ _ _)) (v' := (.slice _ _ _)) (v'' := (.int .i64 _)) (v3 := (.int .i64 _)) Try.results54 rfl rfl rfl rfl ?_)
      exact ⟨none, 0, [], none, 0, [], 0, 1, rfl, nilS0, nilS0, ⟨fun _ => ⟨rfl, rfl, rfl, rfl⟩, fun h1 h2 => absurd ⟨h1, h2⟩ hno, fun h1 h2 => absurd ⟨h1, h2⟩ hno⟩, hE⟩
    ·
      try simp only [decide_eq_true_eq, decide_eq_false_iff_not, Bool.not_eq_true', Bool.not_eq_false', Bool.and_eq_true, Bool.or_eq_true, Bool.or_eq_false_iff, Bool.cond_true_right, Bool.cond_false_right, Bool.cond_true_left, Bool.cond_false_left, ne_eq, Decidable.not_not, bne_iff_ne, beq_iff_eq, beq_eq_false_iff_ne, Bool.not_true, Bool.not_false] at hc0
      have hbt : b = true := by assumption
      have hfo := hb.1 hbt
      have hok := hfo.ok
      have hac := hok.ac
      refine wp_skip ?_
      refine n_then ?_
      refine wp_seq ?_
      refine wp_seq ?_
      refine rg ?_
      refine st (mvI rfl) ?_
      refine sc cl69 (ref13_in_ok _ _ _ _) rfl ?_
      rintro v22 w18 ⟨rfl, ho19⟩
      have hz23 := ho19.size
      replace hN := hN.ext ho19
      replace hTr := hTr.ext ho19
      replace hT := hT.ext ho19
      replace hE := hE.step ho19 (.inl (Nat.le_refl _))
      replace hb4 := hb4.ext ho19
      refine st (y_not rfl) ?_
      refine rg_end ?_
      refine n_then ?_
      refine cnd rfl (fun hc1 => ?_) (fun hc1 => ?_)
      ·
        try simp only [decide_eq_true_eq, decide_eq_false_iff_not, Bool.not_eq_true', Bool.not_eq_false', Bool.and_eq_true, Bool.or_eq_true, Bool.or_eq_false_iff, Bool.cond_true_right, Bool.cond_false_right, Bool.cond_true_left, Bool.cond_false_left, ne_eq, Decidable.not_not, bne_iff_ne, beq_iff_eq, beq_eq_false_iff_ne, Bool.not_true, Bool.not_false] at hc1
        refine wp_seq ?_
        refine rg ?_
        refine st (asS rfl) ?_
        refine st (asS rfl) ?_
        refine st (asI rfl) ?_
        refine st (asI rfl) ?_
        refine rg_end ?_
        refine n_then ?_
        refine wp_ret ?_
        refine r_then (ret4 (v := (.slice _ _ _)) (v' := (.slice _ _ _)) (v'' := (.int .i64 _)) (v3 := (.int .i64 _)) Try.results54 rfl rfl rfl rfl ?_)
        exact ⟨none, 0, [], none, 0, [], 0, 4, rfl, nilS0, nilS0, ⟨fun h => absurd ⟨hfo, hc0⟩ h, fun _ _ _ => ⟨rfl, rfl, rfl, rfl⟩, fun _ _ h => absurd h hc1⟩, hE⟩
      ·
        try simp only [decide_eq_true_eq, decide_eq_false_iff_not, Bool.not_eq_true', Bool.not_eq_false', Bool.and_eq_true, Bool.or_eq_true, Bool.or_eq_false_iff, Bool.cond_true_right, Bool.cond_false_right, Bool.cond_true_left, Bool.cond_false_left, ne_eq, Decidable.not_not, bne_iff_ne, beq_iff_eq, beq_eq_false_iff_ne, Bool.not_true, Bool.not_false] at hc1
        obtain ⟨B', hB'⟩ : ∃ B' : Nat, B = (B' : Int) := Int.eq_ofNat_of_zero_le hc1.1
        subst hB'
        refine wp_skip ?_
        refine n_then ?_
        refine wp_seq ?_
        refine rg ?_
        refine st (asI rfl) ?_
        refine rg_end ?_
        refine n_then ?_
        refine wp_seq ?_
        refine wp_block ?_
        refine lp (γ := Nat × List Int × List Int × Option Addr × Nat × Option Addr × Nat) [1, 2, 12, 13, 14, 15, 16, 30, 31, 32, 33, 34, 35, 36, 37, 38, 39, 40, 41, 42, 43, 44, 45, 46, 47, 48, 49, 50, 51, 52, 53, 54, 55] (fun ⟨mv, tree2, t2, ar2, cr2, at2, ct2⟩ => [(12, .int .i64 (mv : Int)), (1, .slice ar2 tree2.length cr2), (2, .slice at2 t2.length ct2)]) (fun ⟨mv, tree2, t2, ar2, cr2, at2, ct2⟩ w_ => Ext w18 w_ ∧ (mv : Int) ≤ (B' : Int) ∧ (tree2.length : Int) ≤ 9223372036854775807 ∧ FoOk N tree2 ∧ feas N t2 = true ∧ ((smF N B' tree t).1 = (smF N (B' - mv) tree2 t2).1 ∧ (smF N B' tree t).2.1 = (smF N (B' - mv) tree2 t2).2.1 ∧ (smF N B' tree t).2.2 = mv + (smF N (B' - mv) tree2 t2).2.2) ∧ Ints 0 w_.heap.size w_ ar2 tree2 ∧ Ints 0 w_.heap.size w_ at2 t2) (fun ⟨mv, tree2, t2, ar2, cr2, at2, ct2⟩ => B' - mv) (0, tree, t, ar, cr, at_, ct) ⟨rfl, rfl, rfl, trivial⟩ ⟨Out.refl _ _ _, by omega, htn, hfo, hc0, ⟨rfl, rfl, by simp⟩, Ints.full hTr, Ints.full hT⟩ ?_
        rintro ⟨mv, tree2, t2, ar2, cr2, at2, ct2⟩ hav_ w24 ⟨ho25, hmB, htn2, hf2, hft, hsm, hTr, hT⟩
        have hlp0 := ho25
        have hz26 := ho25.size
        replace hN := hN.ext ho25
        replace hE := hE.step ho25 (.inl (Nat.le_refl _))
        replace hb4 := hb4.ext ho25
        refine wp_seq ?_
        refine wp_seq ?_
        refine rg ?_
        refine st (mvI rfl) ?_
        refine st (mvI rfl) ?_
        refine st (y_lss rfl rfl) ?_
        refine rg_end ?_
        refine n_then ?_
        refine cnd rfl (fun hc2 => ?_) (fun hc2 => ?_)
        ·
          try simp only [decide_eq_true_eq, decide_eq_false_iff_not, Bool.not_eq_true', Bool.not_eq_false', Bool.and_eq_true, Bool.or_eq_true, Bool.or_eq_false_iff, Bool.cond_true_right, Bool.cond_false_right, Bool.cond_true_left, Bool.cond_false_left, ne_eq, Decidable.not_not, bne_iff_ne, beq_iff_eq, beq_eq_false_iff_ne, Bool.not_true, Bool.not_false] at hc2
          refine wp_skip ?_
          refine n_then ?_
          refine wp_block ?_
          refine wp_seq ?_
          refine rg ?_
          refine st (y_lbN hb4 agg26 rfl) ?_
          refine st (mvS rfl) ?_
          refine st (mvS rfl) ?_
          refine sc cl53 (ref13_Best_ok N A _ _ tree2 _ _ _ _ t2 _ _ _ _ _ hN hTr (by omega) hT) rfl ?_
          rintro v31 w27 ⟨o, n_, ob, e4, rfl, hq4, ho28⟩
          obtain ⟨rfl, rfl, rfl, rfl⟩ := hq4.b hf2 hft
          have hz32 := ho28.size
          replace hN := hN.ext ho28
          replace hE := hE.step ho28 (.inl (Nat.le_refl _))
          replace hb4 := hb4.ext ho28
          replace hTr := hTr.ext ho28
          replace hT := hT.ext ho28
          replace hlp0 := hlp0.step ho28 (.inl (Nat.le_refl _))
          refine st (mvT rfl) ?_
          refine st (y_ext rfl rfl) ?_
          refine st (y_ext rfl rfl) ?_
          refine st (y_ext rfl rfl) ?_
          refine st (y_ext rfl rfl) ?_
          refine st (asI rfl) ?_
          refine st (asI rfl) ?_
          refine st (asB rfl) ?_
          refine st (asI rfl) ?_
          refine rg_end ?_
          refine n_then ?_
          refine wp_seq ?_
          refine wp_seq ?_
          refine rg ?_
          refine st (mvB rfl) ?_
          refine st (y_not rfl) ?_
          refine rg_end ?_
          refine n_then ?_
          refine cnd rfl (fun hc3 => ?_) (fun hc3 => ?_)
          ·
            try simp only [decide_eq_true_eq, decide_eq_false_iff_not, Bool.not_eq_true', Bool.not_eq_false', Bool.and_eq_true, Bool.or_eq_true, Bool.or_eq_false_iff, Bool.cond_true_right, Bool.cond_false_right, Bool.cond_true_left, Bool.cond_false_left, ne_eq, Decidable.not_not, bne_iff_ne, beq_iff_eq, beq_eq_false_iff_ne, Bool.not_true, Bool.not_false] at hc3
            have hsz := smF_stop (N := N) (B := B') (mv := mv) (tr := tree2) (t := t2) (by rw [hc3]; decide)
            refine wp_exit ?_
            refine e_then (e_blk' rfl (e_then (e_blk (?_))))
            refine n_then ?_
            refine wp_seq ?_
            refine rg ?_
            refine st (mvS rfl) ?_
            refine st (mvS rfl) ?_
            refine st (mvI rfl) ?_
            refine st (asS rfl) ?_
            refine st (asS rfl) ?_
            refine st (asI rfl) ?_
            refine st (asI rfl) ?_
            refine rg_end ?_
            refine n_then ?_
            refine wp_ret ?_
            refine ret4 (v := (.slice _ _ _)) (v' := (.slice _ _ _)) (v'' := (.int .i64 _)) (v3 := (.int .i64 _)) Try.results54 rfl rfl rfl rfl ?_
            rw [hsz] at hsm
            exact ⟨_, _, tree2, _, _, t2, _, 0, rfl, Ints.full hTr, Ints.full hT, ⟨fun h => absurd ⟨hfo, hc0⟩ h, fun _ _ h => absurd (by omega) h, fun _ _ _ => ⟨hsm.1.symm, hsm.2.1.symm, by have := hsm.2.2; simp only [Nat.add_zero] at this; rw [Int.toNat_natCast, this], rfl⟩⟩, hE⟩
          ·
            try simp only [decide_eq_true_eq, decide_eq_false_iff_not, Bool.not_eq_true', Bool.not_eq_false', Bool.and_eq_true, Bool.or_eq_true, Bool.or_eq_false_iff, Bool.cond_true_right, Bool.cond_false_right, Bool.cond_true_left, Bool.cond_false_left, ne_eq, Decidable.not_not, bne_iff_ne, beq_iff_eq, beq_eq_false_iff_ne, Bool.not_true, Bool.not_false] at hc3
            obtain ⟨hma, hmf, hmc, hml⟩ := best_ok.yes hc3
            have hstp := smF_step (N := N) (B := B') (mv := mv) (tr := tree2) (t := t2) (by omega) hc3
            have hir := hma.i1
            have hi0 := hma.i0
            refine wp_skip ?_
            refine n_then ?_
            refine wp_seq ?_
            refine rg ?_
            refine st (y_lbN hb4 agg26 rfl) ?_
            refine st (mvS rfl) ?_
            refine st (mvS rfl) ?_
            refine st (mvI rfl) ?_
            refine st (mvI rfl) ?_
            refine sc cl52 (ref13_Move_ok N A _ _ tree2 _ _ _ _ t2 _ _ _ _ (bestF N tree2 t2).o (bestF N tree2 t2).i _ hN hTr (by omega) hT (by omega)) rfl ?_
            rintro v37 w33 ⟨af, cf, f, a1, c1, Tn, e, rfl, hF, hTn, hmr, ho34⟩
            obtain ⟨rfl, rfl, rfl⟩ := hmr.d hf2 hft hma hmf
            have hmlen := hmr.len
            have hfn := fo_mvF hma hf2
            have hz38 := ho34.size
            replace hN := hN.ext ho34
            replace hE := hE.step ho34 (.inl (Nat.le_refl _))
            replace hb4 := hb4.ext ho34
            replace hTr := hTr.ext ho34
            replace hT := hT.ext ho34
            replace hlp0 := hlp0.step ho34 (.inl (Nat.le_refl _))
            refine st (mvT rfl) ?_
            refine st (y_ext rfl rfl) ?_
            refine st (y_ext rfl rfl) ?_
            refine st (y_ext rfl rfl) ?_
            refine st (asS rfl) ?_
            refine st (asS rfl) ?_
            refine rg_end ?_
            refine n_then ?_
            refine rg ?_
            refine st (mvI rfl) ?_
            refine st (y_add rfl rfl (by omega)) ?_
            refine st (asI rfl) ?_
            refine rg_end ?_
            refine n_blk ?_
            exact n_then ⟨(mv + 1, _, _, _, _, _, _), _, rfl, same_lk rfl (same_h0), ⟨rfl, rfl, rfl, trivial⟩, ⟨hlp0, by omega, by omega, hfn, hmf, ⟨by rw [hsm.1, hstp], by rw [hsm.2.1, hstp], by rw [hsm.2.2, hstp]; dsimp only; omega⟩, Ints.full hF, Ints.full hTn⟩, by first | omega | (dsimp only; omega)⟩
        ·
          try simp only [decide_eq_true_eq, decide_eq_false_iff_not, Bool.not_eq_true', Bool.not_eq_false', Bool.and_eq_true, Bool.or_eq_true, Bool.or_eq_false_iff, Bool.cond_true_right, Bool.cond_false_right, Bool.cond_true_left, Bool.cond_false_left, ne_eq, Decidable.not_not, bne_iff_ne, beq_iff_eq, beq_eq_false_iff_ne, Bool.not_true, Bool.not_false] at hc2
          have hsz := smF_zero (N := N) (B := B') (mv := mv) (tr := tree2) (t := t2) (by omega)
          refine wp_exit ?_
          refine e_then (e_then (e_blk (?_)))
          refine n_then ?_
          refine wp_seq ?_
          refine rg ?_
          refine st (mvS rfl) ?_
          refine st (mvS rfl) ?_
          refine st (mvI rfl) ?_
          refine st (asS rfl) ?_
          refine st (asS rfl) ?_
          refine st (asI rfl) ?_
          refine st (asI rfl) ?_
          refine rg_end ?_
          refine n_then ?_
          refine wp_ret ?_
          refine ret4 (v := (.slice _ _ _)) (v' := (.slice _ _ _)) (v'' := (.int .i64 _)) (v3 := (.int .i64 _)) Try.results54 rfl rfl rfl rfl ?_
          rw [hsz] at hsm
          exact ⟨_, _, tree2, _, _, t2, _, 0, rfl, Ints.full hTr, Ints.full hT, ⟨fun h => absurd ⟨hfo, hc0⟩ h, fun _ _ h => absurd (by omega) h, fun _ _ _ => ⟨hsm.1.symm, hsm.2.1.symm, by have := hsm.2.2; simp only [Nat.add_zero] at this; rw [Int.toNat_natCast, this], rfl⟩⟩, hE⟩
end Go.Proofs.Ytgekfafangcggaa
