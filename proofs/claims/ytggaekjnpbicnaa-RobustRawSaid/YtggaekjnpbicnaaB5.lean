/-
  Walks of the functions, printed by a program out of the code and the loops' relations.
-/
import Derived.Test.YtggaekjnpbicnaaWkD
import Derived.Test.YtggaekjnpbicnaaProg
import Derived.KernelRfl
import Derived.Test.YtggaekjnpbicnaaB4
namespace Go.Proofs.Ytggaekjnpbicnaa
open Go.Wk Go.RowKit
set_option linter.unusedVariables false
set_option linter.unusedSimpArgs false
theorem cl34 : Callable Try.prog 34 := ⟨Try.call34⟩
theorem cl35 : Callable Try.prog 35 := ⟨Try.call35⟩
theorem cl36 : Callable Try.prog 36 := ⟨Try.call36⟩
theorem cl37 : Callable Try.prog 37 := ⟨Try.call37⟩
theorem cl43 : Callable Try.prog 43 := ⟨Try.call43⟩
theorem cl44 : Callable Try.prog 44 := ⟨Try.call44⟩
theorem cl45 : Callable Try.prog 45 := ⟨Try.call45⟩

theorem flatV_eq {a : Int} (ha : a = -1 ∨ (0 ≤ a ∧ a ≤ 352800)) : (flatV a = 1152921504606846976 ↔ a = -1) ∧ (a ≠ -1 → flatV a = a) ∧ 0 ≤ flatV a ∧ flatV a ≤ 1152921504606846976 := by
  unfold flatV
  rcases ha with rfl | ⟨h1, h2⟩
  · simp
  · rw [if_neg (by omega)]; exact ⟨⟨fun _ => by omega, fun _ => by omega⟩, fun _ => rfl, by omega, by omega⟩
theorem base_flat {a dl : Int} (ha : a = -1 ∨ (0 ≤ a ∧ a ≤ 352800)) (hd : dl ≤ 65536) : max 0 (dl - flatV a) = base a dl := by
  unfold flatV base
  rcases ha with rfl | ⟨h1, h2⟩
  · rw [if_pos rfl, if_pos rfl]; omega
  · rw [if_neg (by omega), if_neg (by omega)]
theorem SprdTo.put {n k : Nat} {m : Int → Int} {dl v : Int} {x : List Int} (h : SprdTo n k m dl x) (hk : k < n) (hv : v = base (m k) dl) : SprdTo n (k + 1) m dl (x.set (k : Int).toNat v) := by
  refine ⟨by simp [h.1], fun q hq => ?_⟩
  have hl := h.1
  simp only [Int.toNat_natCast, List.getD_eq_getElem?_getD]
  by_cases e : q = k
  · subst e
    rw [List.getElem?_set_self (by omega), if_pos (by omega), hv]; rfl
  · rw [List.getElem?_set_ne (by omega), ← List.getD_eq_getElem?_getD, h.2 q hq]
    by_cases h1 : q < k
    · rw [if_pos h1, if_pos (by omega)]
    · rw [if_neg h1, if_neg (by omega)]
theorem LoopM.flat {N : Net} {t : List Int} {k : Nat} {m : Int} {M : Int → Int → Int} (h : LoopM N t k m) (hM : DistOk N t N.evs.length M) (hk : k < N.evs.length) (hm : m ≤ 352800) (ht : M k k = -1 ∨ (0 ≤ M k k ∧ M k k ≤ 352800)) :
    ∃ m', LoopM N t (k + 1) m' ∧ m' ≤ 352800 ∧ min (flatV m) (flatV (M k k)) = flatV m' := by
  have hg := h.2
  by_cases he : M k k = -1
  · refine ⟨m, h.none hM hk he, hm, ?_⟩
    rw [he]; unfold flatV; rw [if_pos (show (-1 : Int) = -1 from rfl)]
    split <;> omega
  · refine ⟨_, h.some hM hk he, ?_, ?_⟩
    · unfold lessS; split <;> omega
    · unfold flatV lessS
      by_cases e : m = -1
      · rw [if_pos e, if_neg he, if_pos e, if_neg he]; omega
      · rw [if_neg e, if_neg he, if_neg e, if_neg (by omega)]
theorem DistRes.uniq {N : Net} {t : List Int} {i j d d' e e' : Int} {ok ok' : Bool} (h : DistRes N t i j d ok e) (h' : DistRes N t i j d' ok' e') : d = d' ∧ ok = ok' ∧ e = e' := by
  unfold DistRes at h h'
  by_cases h1 : feas N t = false
  · rw [if_pos h1] at h h'
    obtain ⟨rfl, rfl, rfl⟩ := h
    obtain ⟨rfl, rfl, rfl⟩ := h'
    exact ⟨rfl, rfl, rfl⟩
  · rw [if_neg h1] at h h'
    by_cases h2 : ¬ (0 ≤ i ∧ i < N.evs.length ∧ 0 ≤ j ∧ j < N.evs.length)
    · rw [if_pos h2] at h h'
      obtain ⟨rfl, rfl, rfl⟩ := h
      obtain ⟨rfl, rfl, rfl⟩ := h'
      exact ⟨rfl, rfl, rfl⟩
    · rw [if_neg h2] at h h'
      obtain ⟨M, hM, rfl, h⟩ := h
      obtain ⟨M', hM', rfl, h'⟩ := h'
      have hu := dist_uniq hM hM' (i := i) (j := j) (by omega) (by omega) (by omega) (by omega)
      rw [← hu] at h'
      rcases h with ⟨h3, rfl, rfl⟩ | ⟨h3, rfl, rfl⟩
      · rcases h' with ⟨_, rfl, rfl⟩ | ⟨h4, _⟩
        · exact ⟨rfl, rfl, rfl⟩
        · exact absurd h3 h4
      · rcases h' with ⟨h4, _⟩ | ⟨_, rfl, rfl⟩
        · exact absurd h4 h3
        · exact ⟨rfl, rfl, rfl⟩
theorem SpreadRes.uniq {N : Net} {t : List Int} {ev dl e e' : Int} {x x' : List Int} (h : SpreadRes N t ev dl x e) (h' : SpreadRes N t ev dl x' e') : x = x' ∧ e = e' := by
  unfold SpreadRes at h h'
  by_cases h1 : feas N t = false
  · rw [if_pos h1] at h h'
    obtain ⟨rfl, rfl⟩ := h
    obtain ⟨rfl, rfl⟩ := h'
    exact ⟨rfl, rfl⟩
  · rw [if_neg h1] at h h'
    by_cases h2 : ¬ (0 ≤ ev ∧ ev < N.evs.length ∧ 0 ≤ dl ∧ dl ≤ 65536)
    · rw [if_pos h2] at h h'
      obtain ⟨rfl, rfl⟩ := h
      obtain ⟨rfl, rfl⟩ := h'
      exact ⟨rfl, rfl⟩
    · rw [if_neg h2] at h h'
      obtain ⟨M, hM, hx⟩ := h.val
      obtain ⟨M', hM', hx'⟩ := h'.val
      refine ⟨list_ext_el (h.len.trans h'.len.symm) fun q hq => ?_, h.e0.trans h'.e0.symm⟩
      have hq' : (q : Int) < N.evs.length := by have := h.len; omega
      rw [hx q (by omega) hq', hx' q (by omega) hq']
      unfold sprd
      rw [dist_uniq hM hM' (i := ev) (j := q) (by omega) (by omega) (by omega) hq']
theorem LoopRes.uniq {N : Net} {t : List Int} {d d' e e' : Int} {ok ok' : Bool} (h : LoopRes N t d ok e) (h' : LoopRes N t d' ok' e') : d = d' ∧ ok = ok' ∧ e = e' := by
  unfold LoopRes at h h'
  by_cases h1 : feas N t = false
  · rw [if_pos h1] at h h'
    obtain ⟨rfl, rfl, rfl⟩ := h
    obtain ⟨rfl, rfl, rfl⟩ := h'
    exact ⟨rfl, rfl, rfl⟩
  · rw [if_neg h1] at h h'
    obtain ⟨rfl, h⟩ := h
    obtain ⟨rfl, h'⟩ := h'
    obtain ⟨rfl, rfl⟩ := h.uniq h'
    exact ⟨rfl, rfl, rfl⟩
theorem CushRes.uniq {N : Net} {t : List Int} {a d d' e e' : Int} (h : CushRes N t a d e) (h' : CushRes N t a d' e') : d = d' ∧ e = e' := by
  unfold CushRes at h h'
  by_cases h1 : feas N t = false
  · rw [if_pos h1] at h h'
    exact ⟨h.1.trans h'.1.symm, h.2.trans h'.2.symm⟩
  · rw [if_neg h1] at h h'
    by_cases h2 : ¬ (0 ≤ a ∧ a < N.acts.length)
    · rw [if_pos h2] at h h'
      exact ⟨h.1.trans h'.1.symm, h.2.trans h'.2.symm⟩
    · rw [if_neg h2] at h h'
      exact ⟨h.1.trans h'.1.symm, h.2.trans h'.2.symm⟩
theorem SpreadRes.len48 {N : Net} {t : List Int} {ev dl e : Int} {x : List Int} (h : SpreadRes N t ev dl x e) : (x.length : Int) ≤ 9223372036854775807 := by
  unfold SpreadRes at h
  by_cases h1 : feas N t = false
  · rw [if_pos h1] at h; rw [h.1]; simp
  · rw [if_neg h1] at h
    have hg := feas_good (N := N) (t := t) (by simpa using h1)
    have := hg.ok.ev
    by_cases h2 : ¬ (0 ≤ ev ∧ ev < N.evs.length ∧ 0 ≤ dl ∧ dl ≤ 65536)
    · rw [if_pos h2] at h; rw [h.1]; simp
    · rw [if_neg h2] at h; have := h.len; omega

set_option maxRecDepth 100000 in
theorem ref19_Cushion_ok (N : Net) (A : NetA) (lo hi : Nat) (t : List Int) (at_ : Option Addr) (ct : Nat) (lt ht : Nat) (a : Int) (w : World) (hN : NetIn lo hi w N A) (hT : Ints lt ht w at_ t)  : Cal Try.prog 34 [netV N A, .slice at_ t.length ct, .int .i64 a] w (fun v w' => ∃ d e, v = .tuple #[.int .i64 d, .int .i64 e] ∧ CushRes N t a d e ∧ Ext w w') := by
  replace hN := hN.full
  replace hT := Ints.full hT
  have hE : Out 0 0 w w := Out.refl _ _ w
  refine enter Try.func34 rfl Try.ntmps34 rfl ?_
  refine wp_seq ?_
  refine rg ?_
  refine sd (d_boxA rfl ?_)
  intro bl4 w1 hbbl4 hs3 ho2 hbl4
  have hz5 := ho2.size
  replace hN := hN.ext ho2
  replace hT := hT.ext ho2
  replace hE := hE.step ho2 (.inl (Nat.le_refl _))
  refine st (asI rfl) ?_
  refine st (asI rfl) ?_
  refine rg_end ?_
  refine n_then ?_
  refine wp_seq ?_
  refine wp_seq ?_
  refine rg ?_
  refine st (y_lbN hbl4 agg26 rfl) ?_
  refine st (mvS rfl) ?_
  refine sc cl43 (ref11_Feasible_ok N A _ _ t _ _ _ _ _ hN hT) rfl ?_
  rintro v10 w6 ⟨rfl, ho7⟩
  have hz11 := ho7.size
  replace hN := hN.ext ho7
  replace hT := hT.ext ho7
  replace hE := hE.step ho7 (.inl (Nat.le_refl _))
  replace hbl4 := hbl4.ext ho7
  refine st (y_not rfl) ?_
  refine rg_end ?_
  refine n_then ?_
  refine cnd rfl (fun hc0 => ?_) (fun hc0 => ?_)
  ·
    try simp only [decide_eq_true_eq, decide_eq_false_iff_not, Bool.not_eq_true', Bool.not_eq_false', Bool.and_eq_true, Bool.or_eq_true, Bool.or_eq_false_iff, Bool.cond_true_right, Bool.cond_false_right, Bool.cond_true_left, Bool.cond_false_left, ne_eq, Decidable.not_not, bne_iff_ne, beq_iff_eq, beq_eq_false_iff_ne, Bool.not_true, Bool.not_false] at hc0
    refine wp_seq ?_
    refine rg ?_
    refine st (asI rfl) ?_
    refine st (asI rfl) ?_
    refine rg_end ?_
    refine n_then ?_
    refine wp_ret ?_
    refine r_then (ret2 (v := (.int .i64 _)) (v' := (.int .i64 _)) Try.results34 rfl rfl ?_)
    exact ⟨_, _, rfl, by unfold CushRes; rw [if_pos hc0]; exact ⟨rfl, rfl⟩, hE⟩
  ·
    try simp only [decide_eq_true_eq, decide_eq_false_iff_not, Bool.not_eq_true', Bool.not_eq_false', Bool.and_eq_true, Bool.or_eq_true, Bool.or_eq_false_iff, Bool.cond_true_right, Bool.cond_false_right, Bool.cond_true_left, Bool.cond_false_left, ne_eq, Decidable.not_not, bne_iff_ne, beq_iff_eq, beq_eq_false_iff_ne, Bool.not_true, Bool.not_false] at hc0
    have hg := feas_good hc0
    have hnev := hg.ok.ev
    have hnac := hg.ok.ac
    have htl := hg.len
    have hsq := flat_sq hnev
    refine wp_skip ?_
    refine n_then ?_
    refine wp_seq ?_
    refine wp_seq ?_
    refine rg ?_
    refine st (mvI rfl) ?_
    refine st (y_fld fld26_2 rfl) ?_
    refine st (y_lb hbl4 na24 rfl rfl) ?_
    refine st (y_len Try.underlying24 rfl) ?_
    refine st (y_sub rfl rfl (by omega)) ?_
    refine sc cl44 (ref19_in_ok _ _ _ _) rfl ?_
    rintro v16 w12 ⟨rfl, ho13⟩
    have hz17 := ho13.size
    replace hN := hN.ext ho13
    replace hT := hT.ext ho13
    replace hE := hE.step ho13 (.inl (Nat.le_refl _))
    replace hbl4 := hbl4.ext ho13
    refine st (y_not rfl) ?_
    refine rg_end ?_
    refine n_then ?_
    refine cnd rfl (fun hc1 => ?_) (fun hc1 => ?_)
    ·
      try simp only [decide_eq_true_eq, decide_eq_false_iff_not, Bool.not_eq_true', Bool.not_eq_false', Bool.and_eq_true, Bool.or_eq_true, Bool.or_eq_false_iff, Bool.cond_true_right, Bool.cond_false_right, Bool.cond_true_left, Bool.cond_false_left, ne_eq, Decidable.not_not, bne_iff_ne, beq_iff_eq, beq_eq_false_iff_ne, Bool.not_true, Bool.not_false] at hc1
      have hr : ¬ (0 ≤ a ∧ a < N.acts.length) := by omega
      refine wp_seq ?_
      refine rg ?_
      refine st (asI rfl) ?_
      refine st (asI rfl) ?_
      refine rg_end ?_
      refine n_then ?_
      refine wp_ret ?_
      refine r_then (ret2 (v := (.int .i64 _)) (v' := (.int .i64 _)) Try.results34 rfl rfl ?_)
      exact ⟨_, _, rfl, by unfold CushRes; rw [if_neg (by simp [hc0]), if_pos hr]; exact ⟨rfl, rfl⟩, hE⟩
    ·
      try simp only [decide_eq_true_eq, decide_eq_false_iff_not, Bool.not_eq_true', Bool.not_eq_false', Bool.and_eq_true, Bool.or_eq_true, Bool.or_eq_false_iff, Bool.cond_true_right, Bool.cond_false_right, Bool.cond_true_left, Bool.cond_false_left, ne_eq, Decidable.not_not, bne_iff_ne, beq_iff_eq, beq_eq_false_iff_ne, Bool.not_true, Bool.not_false] at hc1
      have hr : 0 ≤ a ∧ a < N.acts.length := by omega
      have ha := hg.ok.acs _ (el_mem (l := N.acts) hr.1 hr.2)
      obtain ⟨f0, f1, t0, t1, hne, hm0, hm1, hm2, hm3, _, _⟩ := hg.ok.acs _ (el_mem (l := N.acts) hr.1 hr.2)
      have hs := slack_rng (N := N) (t := t) (a := el N.acts a) (by have := hg.ok.p2; omega)
      have hp7 := hg.ok.p7
      have hdu : durA N t (el N.acts a) - (el N.acts a).mn = slackA N t (el N.acts a) := by unfold durA slackA; omega
      refine wp_skip ?_
      refine n_then ?_
      refine wp_seq ?_
      refine rgD 14 (fun w_ => Ext w12 w_) (fun i => Nat.beq i 7) mixed (by kernel_rfl) ?_
      intro w18 ho19 hs20
      refine ⟨ho19, ?_⟩
      have hx21 := ho19
      refine tn rfl (fun _ hG => y_lbN (hbl4.ext hG) agg26 rfl) ?_
      refine tn rfl (fun _ hG => mvS rfl) ?_
      refine tn rfl (fun _ hG => y_fld fld26_2 rfl) ?_
      refine tn rfl (fun _ hG => y_lb (hbl4.ext hG) na24 rfl rfl) ?_
      refine tn rfl (fun _ hG => mvI rfl) ?_
      refine tn rfl (fun _ hG => y_ix (hN.a.ext hG) sl24 rfl (rfl) rfl (by omega) (by omega)) ?_
      refine tn rfl (fun _ hG => y_lw (hN.a.ext hG) agg40 rfl (by omega) (by omega)) ?_
      refine tc rfl cl32 (ref11_Lasts_ok N A _ _ t _ _ _ _ _ _ (hN.ext hx21) (hT.ext hx21) hg ha) rfl ?_
      rintro v26 w22 ⟨rfl, ho23⟩
      have hx27 := hx21.step ho23 (.inl (Nat.le_refl _))
      have hz28 := ho23.size
      refine ⟨hx27, ?_⟩
      refine tn rfl (fun _ hG => y_fld fld26_2 rfl) ?_
      refine tn rfl (fun _ hG => y_lb (hbl4.ext hG) na24 rfl rfl) ?_
      refine tn rfl (fun _ hG => mvI rfl) ?_
      refine tn rfl (fun _ hG => y_ix (hN.a.ext hG) sl24 rfl (rfl) rfl (by omega) (by omega)) ?_
      refine tn rfl (fun _ hG => y_fld fld40_3 rfl) ?_
      refine tn rfl (fun _ hG => y_lf (hN.a.ext hG) na3 rfl (by omega) (by omega) rfl) ?_
      refine t_end ?_
      have hz29 := hx27.size
      replace hN := hN.ext hx27
      replace hT := hT.ext hx27
      replace hE := hE.step hx27 (.inl (Nat.le_refl _))
      replace hbl4 := hbl4.ext hx27
      refine st (y_sub rfl rfl (by omega)) ?_
      refine st (asI rfl) ?_
      refine st (asI rfl) ?_
      refine rg_end ?_
      refine n_then ?_
      refine wp_ret ?_
      refine ret2 (v := (.int .i64 _)) (v' := (.int .i64 _)) Try.results34 rfl rfl ?_
      exact ⟨_, _, rfl, by unfold CushRes; rw [if_neg (by simp [hc0]), if_neg (not_not_intro hr)]; exact ⟨hdu, rfl⟩, hE⟩

set_option maxRecDepth 100000 in
theorem ref19_Distance_ok (N : Net) (A : NetA) (lo hi : Nat) (t : List Int) (at_ : Option Addr) (ct : Nat) (lt ht : Nat) (i j : Int) (w : World) (hN : NetIn lo hi w N A) (hT : Ints lt ht w at_ t)  : Cal Try.prog 35 [netV N A, .slice at_ t.length ct, .int .i64 i, .int .i64 j] w (fun v w' => ∃ d ok e, v = .tuple #[.int .i64 d, .bool ok, .int .i64 e] ∧  DistRes N t i j d ok e ∧ Ext w w') := by
  replace hN := hN.full
  replace hT := Ints.full hT
  have hE : Out 0 0 w w := Out.refl _ _ w
  refine enter Try.func35 rfl Try.ntmps35 rfl ?_
  refine wp_seq ?_
  refine rg ?_
  refine sd (d_boxA rfl ?_)
  intro bl4 w1 hbbl4 hs3 ho2 hbl4
  have hz5 := ho2.size
  replace hN := hN.ext ho2
  replace hT := hT.ext ho2
  replace hE := hE.step ho2 (.inl (Nat.le_refl _))
  refine st (asI rfl) ?_
  refine st (asB rfl) ?_
  refine st (asI rfl) ?_
  refine rg_end ?_
  refine n_then ?_
  refine wp_seq ?_
  refine wp_seq ?_
  refine rg ?_
  refine st (y_lbN hbl4 agg26 rfl) ?_
  refine st (mvS rfl) ?_
  refine sc cl43 (ref11_Feasible_ok N A _ _ t _ _ _ _ _ hN hT) rfl ?_
  rintro v10 w6 ⟨rfl, ho7⟩
  have hz11 := ho7.size
  replace hN := hN.ext ho7
  replace hT := hT.ext ho7
  replace hE := hE.step ho7 (.inl (Nat.le_refl _))
  replace hbl4 := hbl4.ext ho7
  refine st (y_not rfl) ?_
  refine rg_end ?_
  refine n_then ?_
  refine cnd rfl (fun hc0 => ?_) (fun hc0 => ?_)
  ·
    try simp only [decide_eq_true_eq, decide_eq_false_iff_not, Bool.not_eq_true', Bool.not_eq_false', Bool.and_eq_true, Bool.or_eq_true, Bool.or_eq_false_iff, Bool.cond_true_right, Bool.cond_false_right, Bool.cond_true_left, Bool.cond_false_left, ne_eq, Decidable.not_not, bne_iff_ne, beq_iff_eq, beq_eq_false_iff_ne, Bool.not_true, Bool.not_false] at hc0
    refine wp_seq ?_
    refine rg ?_
    refine st (asI rfl) ?_
    refine st (asB rfl) ?_
    refine st (asI rfl) ?_
    refine rg_end ?_
    refine n_then ?_
    refine wp_ret ?_
    refine r_then (ret3 (v := (.int .i64 _)) (v' := (.bool _)) (v'' := (.int .i64 _)) Try.results35 rfl rfl rfl ?_)
    exact ⟨_, _, _, rfl, by unfold DistRes; rw [if_pos hc0]; exact ⟨rfl, rfl, rfl⟩, hE⟩
  ·
    try simp only [decide_eq_true_eq, decide_eq_false_iff_not, Bool.not_eq_true', Bool.not_eq_false', Bool.and_eq_true, Bool.or_eq_true, Bool.or_eq_false_iff, Bool.cond_true_right, Bool.cond_false_right, Bool.cond_true_left, Bool.cond_false_left, ne_eq, Decidable.not_not, bne_iff_ne, beq_iff_eq, beq_eq_false_iff_ne, Bool.not_true, Bool.not_false] at hc0
    have hg := feas_good hc0
    have hnev := hg.ok.ev
    have hnac := hg.ok.ac
    have htl := hg.len
    have hsq := flat_sq hnev
    refine wp_skip ?_
    refine n_then ?_
    refine wp_seq ?_
    refine rg ?_
    refine st (y_fld fld26_1 rfl) ?_
    refine st (y_lb hbl4 na23 rfl rfl) ?_
    refine st (y_len Try.underlying23 rfl) ?_
    refine st (asI rfl) ?_
    refine rg_end ?_
    refine n_then ?_
    refine wp_seq ?_
    refine cut (γ := Unit) [20, 21, 22, 23, 24, 25, 26, 27, 28, 29, 30, 31] (fun _ => [(31, .bool (decide (¬ (0 ≤ i ∧ i < N.evs.length ∧ 0 ≤ j ∧ j < N.evs.length))))]) (fun _ w_ => Ext w6 w_ ∧ True) ?_ ?_
    ·
      have hcut := Out.refl 0 0 w6
      refine rg ?_
      refine st (mvI rfl) ?_
      refine st (mvI rfl) ?_
      refine st (y_sub rfl rfl (by omega)) ?_
      refine sc cl44 (ref19_in_ok _ _ _ _) rfl ?_
      rintro v16 w12 ⟨rfl, ho13⟩
      have hz17 := ho13.size
      replace hN := hN.ext ho13
      replace hT := hT.ext ho13
      replace hE := hE.step ho13 (.inl (Nat.le_refl _))
      replace hbl4 := hbl4.ext ho13
      replace hcut := hcut.step ho13 (.inl (Nat.le_refl _))
      refine st (y_not rfl) ?_
      refine st (mvB rfl) ?_
      refine gspL 25 rfl (fun hg18 => ?_) (fun hg18 => ?_)
      ·
        have hg18n := hg18; try simp only [decide_eq_true_eq, decide_eq_false_iff_not, Bool.not_eq_true', Bool.not_eq_false', Bool.and_eq_true, Bool.or_eq_true, Bool.or_eq_false_iff, Bool.cond_true_right, Bool.cond_false_right, Bool.cond_true_left, Bool.cond_false_left, ne_eq, Decidable.not_not, bne_iff_ne, beq_iff_eq, beq_eq_false_iff_ne, Bool.not_true, Bool.not_false] at hg18n
        refine sts rfl rfl hg18 ?_
        refine sts rfl rfl hg18 ?_
        refine sts rfl rfl hg18 ?_
        refine sts rfl rfl hg18 ?_
        refine sts rfl rfl hg18 ?_
        refine st (y_pickT rfl hg18 (v := .bool _) rfl) ?_
        refine rg_end ?_
        exact n_then ⟨(), _, rfl, same_lk rfl (same_rfl), ⟨vb (by simp only [decide_eq_true_eq, decide_eq_false_iff_not, Bool.not_eq_true', Bool.not_eq_eq_eq_not, Bool.not_true, Bool.false_eq_true, false_iff, true_iff, iff_true, iff_false]; omega), trivial⟩, ⟨hcut, trivial⟩⟩
      ·
        have hg18n := hg18; try simp only [decide_eq_true_eq, decide_eq_false_iff_not, Bool.not_eq_true', Bool.not_eq_false', Bool.and_eq_true, Bool.or_eq_true, Bool.or_eq_false_iff, Bool.cond_true_right, Bool.cond_false_right, Bool.cond_true_left, Bool.cond_false_left, ne_eq, Decidable.not_not, bne_iff_ne, beq_iff_eq, beq_eq_false_iff_ne, Bool.not_true, Bool.not_false] at hg18n
        refine stg rfl rfl hg18 (mvI rfl) ?_
        refine stg rfl rfl hg18 (mvI rfl) ?_
        refine stg rfl rfl hg18 (y_sub rfl rfl (by omega)) ?_
        refine scg rfl rfl hg18 cl44 (ref19_in_ok _ _ _ _) rfl ?_
        rintro v23 w19 ⟨rfl, ho20⟩
        have hz24 := ho20.size
        replace hN := hN.ext ho20
        replace hT := hT.ext ho20
        replace hE := hE.step ho20 (.inl (Nat.le_refl _))
        replace hbl4 := hbl4.ext ho20
        replace hcut := hcut.step ho20 (.inl (Nat.le_refl _))
        refine stg rfl rfl hg18 (y_not rfl) ?_
        refine st (y_pickF rfl hg18 (v := .bool _) rfl) ?_
        refine rg_end ?_
        exact n_then ⟨(), _, rfl, same_lk rfl (same_rfl), ⟨vb (by simp only [decide_eq_true_eq, decide_eq_false_iff_not, Bool.not_eq_true', Bool.not_eq_eq_eq_not, Bool.not_true, Bool.false_eq_true, false_iff, true_iff, iff_true, iff_false]; omega), trivial⟩, ⟨hcut, trivial⟩⟩
    ·
      rintro _ hav_ w25 ⟨ho26, _⟩
      have hz27 := ho26.size
      replace hN := hN.ext ho26
      replace hT := hT.ext ho26
      replace hE := hE.step ho26 (.inl (Nat.le_refl _))
      replace hbl4 := hbl4.ext ho26
      refine cnd rfl (fun hc1 => ?_) (fun hc1 => ?_)
      ·
        try simp only [decide_eq_true_eq, decide_eq_false_iff_not, Bool.not_eq_true', Bool.not_eq_false', Bool.and_eq_true, Bool.or_eq_true, Bool.or_eq_false_iff, Bool.cond_true_right, Bool.cond_false_right, Bool.cond_true_left, Bool.cond_false_left, ne_eq, Decidable.not_not, bne_iff_ne, beq_iff_eq, beq_eq_false_iff_ne, Bool.not_true, Bool.not_false] at hc1
        refine wp_seq ?_
        refine rg ?_
        refine st (asI rfl) ?_
        refine st (asB rfl) ?_
        refine st (asI rfl) ?_
        refine rg_end ?_
        refine n_then ?_
        refine wp_ret ?_
        refine r_then (ret3 (v := (.int .i64 _)) (v' := (.bool _)) (v'' := (.int .i64 _)) Try.results35 rfl rfl rfl ?_)
        exact ⟨_, _, _, rfl, by unfold DistRes; rw [if_neg (by simp [hc0]), if_pos hc1]; exact ⟨rfl, rfl, rfl⟩, hE⟩
      ·
        try simp only [decide_eq_true_eq, decide_eq_false_iff_not, Bool.not_eq_true', Bool.not_eq_false', Bool.and_eq_true, Bool.or_eq_true, Bool.or_eq_false_iff, Bool.cond_true_right, Bool.cond_false_right, Bool.cond_true_left, Bool.cond_false_left, ne_eq, Decidable.not_not, bne_iff_ne, beq_iff_eq, beq_eq_false_iff_ne, Bool.not_true, Bool.not_false] at hc1
        have hr := flat_rng hc1.1 hc1.2.1 hc1.2.2.1 hc1.2.2.2
        refine wp_skip ?_
        refine n_then ?_
        refine wp_seq ?_
        refine rg ?_
        refine st (y_lbN hbl4 agg26 rfl) ?_
        refine st (mvS rfl) ?_
        refine sc cl45 (ref19_distances_ok N A _ _ t _ _ _ _ _ hN hT hg) rfl ?_
        rintro v32 w28 ⟨ad, cd, d, M, rfl, hd, hfl, hdist, htt, ho29⟩
        have hdl : (d.length : Int) = (N.evs.length : Int) * N.evs.length := by rw [hfl.len]; simp
        have hz33 := ho29.size
        replace hN := hN.ext ho29
        replace hT := hT.ext ho29
        replace hE := hE.step ho29 (.inl (Nat.le_refl _))
        replace hbl4 := hbl4.ext ho29
        refine st (mvI rfl) ?_
        refine st (mvI rfl) ?_
        refine st (y_mul rfl rfl (by omega)) ?_
        refine st (mvI rfl) ?_
        refine st (y_add rfl rfl (by omega)) ?_
        refine st (y_ix hd sl22 rfl (rfl) rfl (by omega) (by omega)) ?_
        refine st (y_le hd na3 rfl (by omega) (by omega) rfl) ?_
        refine st (asI rfl) ?_
        have hv := hfl.val i j hc1.1 hc1.2.1 hc1.2.2.1 hc1.2.2.2
        have hq := flatV_eq (htt i j hc1.1 hc1.2.1 hc1.2.2.1 hc1.2.2.2)
        refine rg_end ?_
        refine n_then ?_
        refine wp_seq ?_
        refine wp_seq ?_
        refine rg ?_
        refine st (mvI rfl) ?_
        refine st (y_eql rfl rfl) ?_
        refine rg_end ?_
        refine n_then ?_
        refine cnd rfl (fun hc2 => ?_) (fun hc2 => ?_)
        ·
          try simp only [decide_eq_true_eq, decide_eq_false_iff_not, Bool.not_eq_true', Bool.not_eq_false', Bool.and_eq_true, Bool.or_eq_true, Bool.or_eq_false_iff, Bool.cond_true_right, Bool.cond_false_right, Bool.cond_true_left, Bool.cond_false_left, ne_eq, Decidable.not_not, bne_iff_ne, beq_iff_eq, beq_eq_false_iff_ne, Bool.not_true, Bool.not_false] at hc2
          refine wp_seq ?_
          refine rg ?_
          refine st (asI rfl) ?_
          refine st (asB rfl) ?_
          refine st (asI rfl) ?_
          refine rg_end ?_
          refine n_then ?_
          refine wp_ret ?_
          refine r_then (ret3 (v := (.int .i64 _)) (v' := (.bool _)) (v'' := (.int .i64 _)) Try.results35 rfl rfl rfl ?_)
          exact ⟨_, _, _, rfl, by unfold DistRes; rw [if_neg (by simp [hc0]), if_neg (not_not_intro hc1)]; exact ⟨M, hdist, rfl, .inl ⟨hq.1.1 (hv.symm.trans hc2), rfl, rfl⟩⟩, hE⟩
        ·
          try simp only [decide_eq_true_eq, decide_eq_false_iff_not, Bool.not_eq_true', Bool.not_eq_false', Bool.and_eq_true, Bool.or_eq_true, Bool.or_eq_false_iff, Bool.cond_true_right, Bool.cond_false_right, Bool.cond_true_left, Bool.cond_false_left, ne_eq, Decidable.not_not, bne_iff_ne, beq_iff_eq, beq_eq_false_iff_ne, Bool.not_true, Bool.not_false] at hc2
          refine wp_skip ?_
          refine n_then ?_
          refine wp_seq ?_
          refine rg ?_
          refine st (mvI rfl) ?_
          refine st (asI rfl) ?_
          refine st (asB rfl) ?_
          refine st (asI rfl) ?_
          refine rg_end ?_
          refine n_then ?_
          refine wp_ret ?_
          refine ret3 (v := (.int .i64 _)) (v' := (.bool _)) (v'' := (.int .i64 _)) Try.results35 rfl rfl rfl ?_
          have hne : M i j ≠ -1 := fun h => hc2 (hv.trans (hq.1.2 h))
          exact ⟨_, _, _, rfl, by unfold DistRes; rw [if_neg (by simp [hc0]), if_neg (not_not_intro hc1)]; exact ⟨M, hdist, rfl, .inr ⟨hne, hv.trans (hq.2.1 hne), rfl⟩⟩, hE⟩

set_option maxRecDepth 100000 in
theorem ref19_Spread_ok (N : Net) (A : NetA) (lo hi : Nat) (t : List Int) (at_ : Option Addr) (ct : Nat) (lt ht : Nat) (ev dl : Int) (w : World) (hN : NetIn lo hi w N A) (hT : Ints lt ht w at_ t)  : Cal Try.prog 36 [netV N A, .slice at_ t.length ct, .int .i64 ev, .int .i64 dl] w (fun v w' => ∃ ad c x e, v = .tuple #[.slice ad x.length c, .int .i64 e] ∧ SpreadRes N t ev dl x e ∧ Ints w.heap.size w'.heap.size w' ad x ∧ Ext w w') := by
  replace hN := hN.full
  replace hT := Ints.full hT
  have hE : Out 0 0 w w := Out.refl _ _ w
  refine enter Try.func36 rfl Try.ntmps36 rfl ?_
  refine wp_seq ?_
  refine rg ?_
  refine sd (d_boxA rfl ?_)
  intro bl4 w1 hbbl4 hs3 ho2 hbl4
  have hz5 := ho2.size
  replace hN := hN.ext ho2
  replace hT := hT.ext ho2
  replace hE := hE.step ho2 (.inl (Nat.le_refl _))
  refine st (asS rfl) ?_
  refine st (asI rfl) ?_
  refine rg_end ?_
  refine n_then ?_
  refine wp_seq ?_
  refine wp_seq ?_
  refine rg ?_
  refine st (y_lbN hbl4 agg26 rfl) ?_
  refine st (mvS rfl) ?_
  refine sc cl43 (ref11_Feasible_ok N A _ _ t _ _ _ _ _ hN hT) rfl ?_
  rintro v10 w6 ⟨rfl, ho7⟩
  have hz11 := ho7.size
  replace hN := hN.ext ho7
  replace hT := hT.ext ho7
  replace hE := hE.step ho7 (.inl (Nat.le_refl _))
  replace hbl4 := hbl4.ext ho7
  refine st (y_not rfl) ?_
  refine rg_end ?_
  refine n_then ?_
  refine cnd rfl (fun hc0 => ?_) (fun hc0 => ?_)
  ·
    try simp only [decide_eq_true_eq, decide_eq_false_iff_not, Bool.not_eq_true', Bool.not_eq_false', Bool.and_eq_true, Bool.or_eq_true, Bool.or_eq_false_iff, Bool.cond_true_right, Bool.cond_false_right, Bool.cond_true_left, Bool.cond_false_left, ne_eq, Decidable.not_not, bne_iff_ne, beq_iff_eq, beq_eq_false_iff_ne, Bool.not_true, Bool.not_false] at hc0
    refine wp_seq ?_
    refine rg ?_
    refine st (asS rfl) ?_
    refine st (asI rfl) ?_
    refine rg_end ?_
    refine n_then ?_
    refine wp_ret ?_
    refine r_then (ret2 (v := (.slice _ _ _)) (v' := (.int .i64 _)) Try.results36 rfl rfl ?_)
    exact ⟨none, 0, [], _, rfl, by unfold SpreadRes; rw [if_pos hc0]; exact ⟨rfl, rfl⟩, ⟨fun h => absurd rfl h, fun i x hx => by simp at hx⟩, hE⟩
  ·
    try simp only [decide_eq_true_eq, decide_eq_false_iff_not, Bool.not_eq_true', Bool.not_eq_false', Bool.and_eq_true, Bool.or_eq_true, Bool.or_eq_false_iff, Bool.cond_true_right, Bool.cond_false_right, Bool.cond_true_left, Bool.cond_false_left, ne_eq, Decidable.not_not, bne_iff_ne, beq_iff_eq, beq_eq_false_iff_ne, Bool.not_true, Bool.not_false] at hc0
    have hg := feas_good hc0
    have hnev := hg.ok.ev
    have hnac := hg.ok.ac
    have htl := hg.len
    have hsq := flat_sq hnev
    refine wp_skip ?_
    refine n_then ?_
    refine wp_seq ?_
    refine rg ?_
    refine st (y_fld fld26_1 rfl) ?_
    refine st (y_lb hbl4 na23 rfl rfl) ?_
    refine st (y_len Try.underlying23 rfl) ?_
    refine st (asI rfl) ?_
    refine rg_end ?_
    refine n_then ?_
    refine wp_seq ?_
    refine cut (γ := Unit) [21, 22, 23, 24, 25, 26, 27, 28, 29, 30] (fun _ => [(30, .bool (decide (¬ (0 ≤ ev ∧ ev < N.evs.length ∧ 0 ≤ dl ∧ dl ≤ 65536))))]) (fun _ w_ => Ext w6 w_ ∧ True) ?_ ?_
    ·
      have hcut := Out.refl 0 0 w6
      refine rg ?_
      refine st (mvI rfl) ?_
      refine st (mvI rfl) ?_
      refine st (y_sub rfl rfl (by omega)) ?_
      refine sc cl44 (ref19_in_ok _ _ _ _) rfl ?_
      rintro v16 w12 ⟨rfl, ho13⟩
      have hz17 := ho13.size
      replace hN := hN.ext ho13
      replace hT := hT.ext ho13
      replace hE := hE.step ho13 (.inl (Nat.le_refl _))
      replace hbl4 := hbl4.ext ho13
      replace hcut := hcut.step ho13 (.inl (Nat.le_refl _))
      refine st (y_not rfl) ?_
      refine st (mvB rfl) ?_
      refine gspL 26 rfl (fun hg18 => ?_) (fun hg18 => ?_)
      ·
        have hg18n := hg18; try simp only [decide_eq_true_eq, decide_eq_false_iff_not, Bool.not_eq_true', Bool.not_eq_false', Bool.and_eq_true, Bool.or_eq_true, Bool.or_eq_false_iff, Bool.cond_true_right, Bool.cond_false_right, Bool.cond_true_left, Bool.cond_false_left, ne_eq, Decidable.not_not, bne_iff_ne, beq_iff_eq, beq_eq_false_iff_ne, Bool.not_true, Bool.not_false] at hg18n
        refine sts rfl rfl hg18 ?_
        refine sts rfl rfl hg18 ?_
        refine sts rfl rfl hg18 ?_
        refine st (y_pickT rfl hg18 (v := .bool _) rfl) ?_
        refine rg_end ?_
        exact n_then ⟨(), _, rfl, same_lk rfl (same_rfl), ⟨vb (by simp only [decide_eq_true_eq, decide_eq_false_iff_not, Bool.not_eq_true', Bool.not_eq_eq_eq_not, Bool.not_true, Bool.false_eq_true, false_iff, true_iff, iff_true, iff_false]; omega), trivial⟩, ⟨hcut, trivial⟩⟩
      ·
        have hg18n := hg18; try simp only [decide_eq_true_eq, decide_eq_false_iff_not, Bool.not_eq_true', Bool.not_eq_false', Bool.and_eq_true, Bool.or_eq_true, Bool.or_eq_false_iff, Bool.cond_true_right, Bool.cond_false_right, Bool.cond_true_left, Bool.cond_false_left, ne_eq, Decidable.not_not, bne_iff_ne, beq_iff_eq, beq_eq_false_iff_ne, Bool.not_true, Bool.not_false] at hg18n
        refine stg rfl rfl hg18 (mvI rfl) ?_
        refine scg rfl rfl hg18 cl44 (ref19_in_ok _ _ _ _) rfl ?_
        rintro v23 w19 ⟨rfl, ho20⟩
        have hz24 := ho20.size
        replace hN := hN.ext ho20
        replace hT := hT.ext ho20
        replace hE := hE.step ho20 (.inl (Nat.le_refl _))
        replace hbl4 := hbl4.ext ho20
        replace hcut := hcut.step ho20 (.inl (Nat.le_refl _))
        refine stg rfl rfl hg18 (y_not rfl) ?_
        refine st (y_pickF rfl hg18 (v := .bool _) rfl) ?_
        refine rg_end ?_
        exact n_then ⟨(), _, rfl, same_lk rfl (same_rfl), ⟨vb (by simp only [decide_eq_true_eq, decide_eq_false_iff_not, Bool.not_eq_true', Bool.not_eq_eq_eq_not, Bool.not_true, Bool.false_eq_true, false_iff, true_iff, iff_true, iff_false]; omega), trivial⟩, ⟨hcut, trivial⟩⟩
    ·
      rintro _ hav_ w25 ⟨ho26, _⟩
      have hz27 := ho26.size
      replace hN := hN.ext ho26
      replace hT := hT.ext ho26
      replace hE := hE.step ho26 (.inl (Nat.le_refl _))
      replace hbl4 := hbl4.ext ho26
      refine cnd rfl (fun hc1 => ?_) (fun hc1 => ?_)
      ·
        try simp only [decide_eq_true_eq, decide_eq_false_iff_not, Bool.not_eq_true', Bool.not_eq_false', Bool.and_eq_true, Bool.or_eq_true, Bool.or_eq_false_iff, Bool.cond_true_right, Bool.cond_false_right, Bool.cond_true_left, Bool.cond_false_left, ne_eq, Decidable.not_not, bne_iff_ne, beq_iff_eq, beq_eq_false_iff_ne, Bool.not_true, Bool.not_false] at hc1
        refine wp_seq ?_
        refine rg ?_
        refine st (asS rfl) ?_
        refine st (asI rfl) ?_
        refine rg_end ?_
        refine n_then ?_
        refine wp_ret ?_
        refine r_then (ret2 (v := (.slice _ _ _)) (v' := (.int .i64 _)) Try.results36 rfl rfl ?_)
        exact ⟨none, 0, [], _, rfl, by unfold SpreadRes; rw [if_neg (by simp [hc0]), if_pos hc1]; exact ⟨rfl, rfl⟩, ⟨fun h => absurd rfl h, fun i x hx => by simp at hx⟩, hE⟩
      ·
        try simp only [decide_eq_true_eq, decide_eq_false_iff_not, Bool.not_eq_true', Bool.not_eq_false', Bool.and_eq_true, Bool.or_eq_true, Bool.or_eq_false_iff, Bool.cond_true_right, Bool.cond_false_right, Bool.cond_true_left, Bool.cond_false_left, ne_eq, Decidable.not_not, bne_iff_ne, beq_iff_eq, beq_eq_false_iff_ne, Bool.not_true, Bool.not_false] at hc1
        refine wp_skip ?_
        refine n_then ?_
        refine wp_seq ?_
        refine rg ?_
        refine st (y_lbN hbl4 agg26 rfl) ?_
        refine st (mvS rfl) ?_
        refine sc cl45 (ref19_distances_ok N A _ _ t _ _ _ _ _ hN hT hg) rfl ?_
        rintro v32 w28 ⟨ad, cd, d, M, rfl, hd, hfl, hdist, htt, ho29⟩
        have hdl : (d.length : Int) = (N.evs.length : Int) * N.evs.length := by rw [hfl.len]; simp
        have hz33 := ho29.size
        replace hN := hN.ext ho29
        replace hT := hT.ext ho29
        replace hE := hE.step ho29 (.inl (Nat.le_refl _))
        replace hbl4 := hbl4.ext ho29
        refine st (asS rfl) ?_
        refine rg_end ?_
        refine n_then ?_
        refine wp_seq ?_
        refine rg ?_
        refine st (mvI rfl) ?_
        refine sd (d_make (lo := w.heap.size) (enc := encI) (e0 := (0 : Int)) sl22 info3 (fun _ => rfl) rfl rfl rfl (by omega) (by unfold maxLen; omega) (by omega) ?_)
        intro bx w34 hbbx hs36 ho35 hx
        have hz38 := ho35.size
        replace hN := hN.ext ho35
        replace hT := hT.ext ho35
        replace hE := hE.step ho35 (.inl (Nat.le_refl _))
        replace hbl4 := hbl4.ext ho35
        replace hd := hd.ext ho35
        refine st (asS rfl) ?_
        refine rg_end ?_
        refine n_then ?_
        refine wp_seq ?_
        refine wp_seq ?_
        refine rg ?_
        refine st (mvS rfl) ?_
        refine st (y_len Try.underlying22 rfl) ?_
        refine st (mvI rfl) ?_
        refine rg_end ?_
        refine n_then ?_
        refine wp_block ?_
        have hx0 := hx.rng
        refine lp (γ := Nat × List Int) [13, 38, 39, 40, 41, 42, 43, 44, 45, 46, 47, 48, 49, 50, 51, 52, 53, 54, 55] (fun ⟨k, x⟩ => [(38, .int .i64 (k : Int))]) (fun ⟨k, x⟩ w_ => Out bx (bx + 1) w34 w_ ∧ (k : Int) ≤ N.evs.length ∧ SprdTo N.evs.length k (M ev) dl x ∧ Ow 3 encI 1 w.heap.size (bx + 1) w_ (some ⟨bx, 0, none⟩) N.evs.length x) (fun ⟨k, x⟩ => N.evs.length - k) (0, List.replicate N.evs.length 0) ⟨rfl, trivial⟩ ⟨Out.refl _ _ _, by omega, SprdTo.start, hx⟩ ?_
        rintro ⟨k, x⟩ hav_ w39 ⟨ho40, hk, hsp, hx⟩
        have hlp0 := ho40
        have hz41 := ho40.size
        replace hN := hN.out ho40 (by first | omega | (simp only [blk_some, hi1_some] at *; omega))
        replace hT := hT.out ho40 (by first | omega | (simp only [blk_some, hi1_some] at *; omega))
        replace hE := hE.step ho40 (by first | omega | (simp only [blk_some, hi1_some] at *; omega))
        replace hbl4 := hbl4.out ho40 (by first | omega | (simp only [blk_some, hi1_some] at *; omega))
        replace hd := hd.out ho40 (by first | omega | (simp only [blk_some, hi1_some] at *; omega))
        refine wp_seq ?_
        refine rg ?_
        refine st (y_lss rfl rfl) ?_
        refine rg_end ?_
        refine n_then ?_
        refine wp_seq ?_
        refine cnd rfl (fun hc2 => ?_) (fun hc2 => ?_)
        ·
          try simp only [decide_eq_true_eq, decide_eq_false_iff_not, Bool.not_eq_true', Bool.not_eq_false', Bool.and_eq_true, Bool.or_eq_true, Bool.or_eq_false_iff, Bool.cond_true_right, Bool.cond_false_right, Bool.cond_true_left, Bool.cond_false_left, ne_eq, Decidable.not_not, bne_iff_ne, beq_iff_eq, beq_eq_false_iff_ne, Bool.not_true, Bool.not_false] at hc2
          have hr := flat_rng hc1.1 hc1.2.1 (j := k) (by omega) (by have := hsp.1; omega)
          have hv := hfl.val ev k hc1.1 hc1.2.1 (by omega) (by omega)
          have hq := flatV_eq (htt ev k hc1.1 hc1.2.1 (by omega) (by omega))
          refine wp_skip ?_
          refine n_then ?_
          refine wp_seq ?_
          refine wp_block ?_
          refine wp_seq ?_
          refine rg ?_
          refine st (mvI rfl) ?_
          refine st (asI rfl) ?_
          refine rg_end ?_
          refine n_then ?_
          refine rg ?_
          refine st (mvS rfl) ?_
          refine st (mvI rfl) ?_
          refine st (mvI rfl) ?_
          refine st (mvS rfl) ?_
          refine st (mvI rfl) ?_
          refine st (mvI rfl) ?_
          refine st (y_mul rfl rfl (by omega)) ?_
          refine st (mvI rfl) ?_
          refine st (y_add rfl rfl (by omega)) ?_
          refine st (y_ix hd sl22 rfl (rfl) rfl (by omega) (by omega)) ?_
          refine st (y_le hd na3 rfl (by omega) (by omega) rfl) ?_
          refine st (y_sub rfl rfl (by omega)) ?_
          refine st (y_max rfl rfl) ?_
          refine st (y_ix hx.sl sl22 rfl (hsp.1.symm) rfl (by omega) (by have := hsp.1; omega)) ?_
          refine sd0 (d_se (j := 0)  hx sz3 rfl rfl rfl (by omega) (by have := hsp.1; omega) (Nat.le_of_ble_eq_true rfl) rfl ?_)
          intro w42 hs44 ho43 hx'
          have hrhx := hx.rng
          clear hx; have hx := hx'; clear hx'
          have hz45 := ho43.size
          replace hN := hN.out ho43 (by first | omega | (simp only [blk_some, hi1_some] at *; omega))
          replace hT := hT.out ho43 (by first | omega | (simp only [blk_some, hi1_some] at *; omega))
          replace hE := hE.step ho43 (by first | omega | (simp only [blk_some, hi1_some] at *; omega))
          replace hbl4 := hbl4.out ho43 (by first | omega | (simp only [blk_some, hi1_some] at *; omega))
          replace hd := hd.out ho43 (by first | omega | (simp only [blk_some, hi1_some] at *; omega))
          replace hlp0 := hlp0.step ho43 (by first | omega | (simp only [blk_some, hi1_some] at *; omega))
          have hsp := hsp.put (v := max 0 (dl - el d (ev * N.evs.length + k))) (by omega) (by rw [hv]; exact base_flat (htt ev k hc1.1 hc1.2.1 (by omega) (by omega)) hc1.2.2.2)
          refine rg_end ?_
          refine n_blk ?_
          refine n_then ?_
          refine rg ?_
          refine st (y_add rfl rfl (by omega)) ?_
          refine st (mvI rfl) ?_
          refine rg_end ?_
          exact n_then ⟨(k + 1, _), _, rfl, same_lk rfl (same_h0), ⟨rfl, trivial⟩, ⟨hlp0, by omega, hsp, hx⟩, by first | omega | (dsimp only; omega)⟩
        ·
          try simp only [decide_eq_true_eq, decide_eq_false_iff_not, Bool.not_eq_true', Bool.not_eq_false', Bool.and_eq_true, Bool.or_eq_true, Bool.or_eq_false_iff, Bool.cond_true_right, Bool.cond_false_right, Bool.cond_true_left, Bool.cond_false_left, ne_eq, Decidable.not_not, bne_iff_ne, beq_iff_eq, beq_eq_false_iff_ne, Bool.not_true, Bool.not_false] at hc2
          refine wp_exit ?_
          refine e_then (e_then (e_blk (?_)))
          refine n_then ?_
          refine wp_seq ?_
          refine rg ?_
          refine st (mvS rfl) ?_
          refine st (mvI rfl) ?_
          refine st (mvI rfl) ?_
          refine st (y_ix hx.sl sl22 rfl (hsp.1.symm) rfl (by omega) (by have := hsp.1; omega)) ?_
          refine sd0 (d_se (j := 0)  hx sz3 rfl rfl rfl (by omega) (by have := hsp.1; omega) (Nat.le_of_ble_eq_true rfl) rfl ?_)
          intro w46 hs48 ho47 hx'
          have hrhx := hx.rng
          clear hx; have hx := hx'; clear hx'
          have hz49 := ho47.size
          replace hN := hN.out ho47 (by first | omega | (simp only [blk_some, hi1_some] at *; omega))
          replace hT := hT.out ho47 (by first | omega | (simp only [blk_some, hi1_some] at *; omega))
          replace hE := hE.step ho47 (by first | omega | (simp only [blk_some, hi1_some] at *; omega))
          replace hbl4 := hbl4.out ho47 (by first | omega | (simp only [blk_some, hi1_some] at *; omega))
          replace hd := hd.out ho47 (by first | omega | (simp only [blk_some, hi1_some] at *; omega))
          refine rg_end ?_
          refine n_then ?_
          refine wp_seq ?_
          refine rg ?_
          refine st (mvS rfl) ?_
          refine st (asS rfl) ?_
          refine st (asI rfl) ?_
          refine rg_end ?_
          refine n_then ?_
          refine wp_ret ?_
          refine ret2 (v := (.slice _ _ _)) (v' := (.int .i64 _)) Try.results36 rfl rfl ?_
          exact ⟨_, _, x.set ev.toNat dl, _, by rw [List.length_set, hsp.1], by unfold SpreadRes; rw [if_neg (by simp [hc0]), if_neg (not_not_intro hc1)]; exact hsp.done hdist (by omega) hc1.1 hc1.2.1, Sl.wide hx.sl (Nat.le_refl _) (by omega), hE⟩

set_option maxRecDepth 100000 in
theorem ref19_Loop_ok (N : Net) (A : NetA) (lo hi : Nat) (t : List Int) (at_ : Option Addr) (ct : Nat) (lt ht : Nat) (w : World) (hN : NetIn lo hi w N A) (hT : Ints lt ht w at_ t)  : Cal Try.prog 37 [netV N A, .slice at_ t.length ct] w (fun v w' => ∃ d ok e, v = .tuple #[.int .i64 d, .bool ok, .int .i64 e] ∧  LoopRes N t d ok e ∧ Ext w w') := by
  replace hN := hN.full
  replace hT := Ints.full hT
  have hE : Out 0 0 w w := Out.refl _ _ w
  refine enter Try.func37 rfl Try.ntmps37 rfl ?_
  refine wp_seq ?_
  refine rg ?_
  refine sd (d_boxA rfl ?_)
  intro bl4 w1 hbbl4 hs3 ho2 hbl4
  have hz5 := ho2.size
  replace hN := hN.ext ho2
  replace hT := hT.ext ho2
  replace hE := hE.step ho2 (.inl (Nat.le_refl _))
  refine st (asI rfl) ?_
  refine st (asB rfl) ?_
  refine st (asI rfl) ?_
  refine rg_end ?_
  refine n_then ?_
  refine wp_seq ?_
  refine wp_seq ?_
  refine rg ?_
  refine st (y_lbN hbl4 agg26 rfl) ?_
  refine st (mvS rfl) ?_
  refine sc cl43 (ref11_Feasible_ok N A _ _ t _ _ _ _ _ hN hT) rfl ?_
  rintro v10 w6 ⟨rfl, ho7⟩
  have hz11 := ho7.size
  replace hN := hN.ext ho7
  replace hT := hT.ext ho7
  replace hE := hE.step ho7 (.inl (Nat.le_refl _))
  replace hbl4 := hbl4.ext ho7
  refine st (y_not rfl) ?_
  refine rg_end ?_
  refine n_then ?_
  refine cnd rfl (fun hc0 => ?_) (fun hc0 => ?_)
  ·
    try simp only [decide_eq_true_eq, decide_eq_false_iff_not, Bool.not_eq_true', Bool.not_eq_false', Bool.and_eq_true, Bool.or_eq_true, Bool.or_eq_false_iff, Bool.cond_true_right, Bool.cond_false_right, Bool.cond_true_left, Bool.cond_false_left, ne_eq, Decidable.not_not, bne_iff_ne, beq_iff_eq, beq_eq_false_iff_ne, Bool.not_true, Bool.not_false] at hc0
    refine wp_seq ?_
    refine rg ?_
    refine st (asI rfl) ?_
    refine st (asB rfl) ?_
    refine st (asI rfl) ?_
    refine rg_end ?_
    refine n_then ?_
    refine wp_ret ?_
    refine r_then (ret3 (v := (.int .i64 _)) (v' := (.bool _)) (v'' := (.int .i64 _)) Try.results37 rfl rfl rfl ?_)
    exact ⟨_, _, _, rfl, by unfold LoopRes; rw [if_pos hc0]; exact ⟨rfl, rfl, rfl⟩, hE⟩
  ·
    try simp only [decide_eq_true_eq, decide_eq_false_iff_not, Bool.not_eq_true', Bool.not_eq_false', Bool.and_eq_true, Bool.or_eq_true, Bool.or_eq_false_iff, Bool.cond_true_right, Bool.cond_false_right, Bool.cond_true_left, Bool.cond_false_left, ne_eq, Decidable.not_not, bne_iff_ne, beq_iff_eq, beq_eq_false_iff_ne, Bool.not_true, Bool.not_false] at hc0
    have hg := feas_good hc0
    have hnev := hg.ok.ev
    have hnac := hg.ok.ac
    have htl := hg.len
    have hsq := flat_sq hnev
    refine wp_skip ?_
    refine n_then ?_
    refine wp_seq ?_
    refine rg ?_
    refine st (y_fld fld26_1 rfl) ?_
    refine st (y_lb hbl4 na23 rfl rfl) ?_
    refine st (y_len Try.underlying23 rfl) ?_
    refine st (asI rfl) ?_
    refine rg_end ?_
    refine n_then ?_
    refine wp_seq ?_
    refine rg ?_
    refine st (y_lbN hbl4 agg26 rfl) ?_
    refine st (mvS rfl) ?_
    refine sc cl45 (ref19_distances_ok N A _ _ t _ _ _ _ _ hN hT hg) rfl ?_
    rintro v16 w12 ⟨ad, cd, d, M, rfl, hd, hfl, hdist, htt, ho13⟩
    have hdl : (d.length : Int) = (N.evs.length : Int) * N.evs.length := by rw [hfl.len]; simp
    have hz17 := ho13.size
    replace hN := hN.ext ho13
    replace hT := hT.ext ho13
    replace hE := hE.step ho13 (.inl (Nat.le_refl _))
    replace hbl4 := hbl4.ext ho13
    refine st (asS rfl) ?_
    refine rg_end ?_
    refine n_then ?_
    refine wp_seq ?_
    refine rg ?_
    refine st (asI rfl) ?_
    refine rg_end ?_
    refine n_then ?_
    refine wp_seq ?_
    refine wp_seq ?_
    refine rg ?_
    refine st (asI rfl) ?_
    refine rg_end ?_
    refine n_then ?_
    refine wp_block ?_
    refine lp (γ := Nat × Int) [9, 10, 21, 22, 23, 24, 25, 26, 27, 28, 29, 30, 31, 32, 33, 34, 35] (fun ⟨k, m⟩ => [(10, .int .i64 (k : Int)), (9, .int .i64 (flatV m))]) (fun ⟨k, m⟩ w_ => Ext w12 w_ ∧ (k : Int) ≤ N.evs.length ∧ LoopM N t k m ∧ m ≤ 352800) (fun ⟨k, m⟩ => N.evs.length - k) (0, -1) ⟨rfl, rfl, trivial⟩ ⟨Out.refl _ _ _, by omega, ⟨LeastLoop.start, by omega⟩, by omega⟩ ?_
    rintro ⟨k, m⟩ hav_ w18 ⟨ho19, hk, hlm, hm⟩
    have hlp0 := ho19
    have hz20 := ho19.size
    replace hN := hN.ext ho19
    replace hT := hT.ext ho19
    replace hE := hE.step ho19 (.inl (Nat.le_refl _))
    replace hbl4 := hbl4.ext ho19
    replace hd := hd.ext ho19
    refine wp_seq ?_
    refine wp_seq ?_
    refine rg ?_
    refine st (mvI rfl) ?_
    refine st (mvI rfl) ?_
    refine st (y_lss rfl rfl) ?_
    refine rg_end ?_
    refine n_then ?_
    refine cnd rfl (fun hc1 => ?_) (fun hc1 => ?_)
    ·
      try simp only [decide_eq_true_eq, decide_eq_false_iff_not, Bool.not_eq_true', Bool.not_eq_false', Bool.and_eq_true, Bool.or_eq_true, Bool.or_eq_false_iff, Bool.cond_true_right, Bool.cond_false_right, Bool.cond_true_left, Bool.cond_false_left, ne_eq, Decidable.not_not, bne_iff_ne, beq_iff_eq, beq_eq_false_iff_ne, Bool.not_true, Bool.not_false] at hc1
      have hr := flat_rng (n := N.evs.length) (i := k) (j := k) (by omega) (by omega) (by omega) (by omega)
      have hv := hfl.val k k (by omega) (by omega) (by omega) (by omega)
      obtain ⟨m', hlm', hm', he'⟩ := hlm.flat hdist (by omega) hm (htt k k (by omega) (by omega) (by omega) (by omega))
      rw [← hv] at he'
      refine wp_skip ?_
      refine n_then ?_
      refine wp_seq ?_
      refine wp_block ?_
      refine rg ?_
      refine st (mvI rfl) ?_
      refine st (mvS rfl) ?_
      refine st (mvI rfl) ?_
      refine st (mvI rfl) ?_
      refine st (y_mul rfl rfl (by omega)) ?_
      refine st (mvI rfl) ?_
      refine st (y_add rfl rfl (by omega)) ?_
      refine st (y_ix hd sl22 rfl (rfl) rfl (by omega) (by omega)) ?_
      refine st (y_le hd na3 rfl (by omega) (by omega) rfl) ?_
      refine st (y_min rfl rfl) ?_
      refine st (asI rfl) ?_
      refine rg_end ?_
      refine n_blk ?_
      refine n_then ?_
      refine rg ?_
      refine st (mvI rfl) ?_
      refine st (y_add rfl rfl (by omega)) ?_
      refine st (asI rfl) ?_
      refine rg_end ?_
      exact n_then ⟨(k + 1, m'), _, rfl, same_lk rfl (same_h0), ⟨rfl, vi he', trivial⟩, ⟨hlp0, by omega, hlm', hm'⟩, by first | omega | (dsimp only; omega)⟩
    ·
      try simp only [decide_eq_true_eq, decide_eq_false_iff_not, Bool.not_eq_true', Bool.not_eq_false', Bool.and_eq_true, Bool.or_eq_true, Bool.or_eq_false_iff, Bool.cond_true_right, Bool.cond_false_right, Bool.cond_true_left, Bool.cond_false_left, ne_eq, Decidable.not_not, bne_iff_ne, beq_iff_eq, beq_eq_false_iff_ne, Bool.not_true, Bool.not_false] at hc1
      refine wp_exit ?_
      refine e_then (e_then (e_blk (?_)))
      refine n_then ?_
      refine wp_seq ?_
      refine wp_seq ?_
      refine rg ?_
      refine st (mvI rfl) ?_
      refine st (y_eql rfl rfl) ?_
      refine rg_end ?_
      refine n_then ?_
      refine cnd rfl (fun hc2 => ?_) (fun hc2 => ?_)
      ·
        try simp only [decide_eq_true_eq, decide_eq_false_iff_not, Bool.not_eq_true', Bool.not_eq_false', Bool.and_eq_true, Bool.or_eq_true, Bool.or_eq_false_iff, Bool.cond_true_right, Bool.cond_false_right, Bool.cond_true_left, Bool.cond_false_left, ne_eq, Decidable.not_not, bne_iff_ne, beq_iff_eq, beq_eq_false_iff_ne, Bool.not_true, Bool.not_false] at hc2
        have hm1 : m = -1 := by unfold flatV at hc2; split at hc2 <;> omega
        refine wp_seq ?_
        refine rg ?_
        refine st (asI rfl) ?_
        refine st (asB rfl) ?_
        refine st (asI rfl) ?_
        refine rg_end ?_
        refine n_then ?_
        refine wp_ret ?_
        refine r_then (ret3 (v := (.int .i64 _)) (v' := (.bool _)) (v'' := (.int .i64 _)) Try.results37 rfl rfl rfl ?_)
        exact ⟨_, _, _, rfl, by unfold LoopRes; rw [if_neg (by simp [hc0])]; refine ⟨rfl, ?_⟩; have h := hlm.1; rw [show k = N.evs.length by omega] at h; simpa [hm1] using h, hE⟩
      ·
        try simp only [decide_eq_true_eq, decide_eq_false_iff_not, Bool.not_eq_true', Bool.not_eq_false', Bool.and_eq_true, Bool.or_eq_true, Bool.or_eq_false_iff, Bool.cond_true_right, Bool.cond_false_right, Bool.cond_true_left, Bool.cond_false_left, ne_eq, Decidable.not_not, bne_iff_ne, beq_iff_eq, beq_eq_false_iff_ne, Bool.not_true, Bool.not_false] at hc2
        have hm1 : m ≠ -1 := fun h => hc2 (by rw [h]; rfl)
        refine wp_skip ?_
        refine n_then ?_
        refine wp_seq ?_
        refine rg ?_
        refine st (mvI rfl) ?_
        refine st (asI rfl) ?_
        refine st (asB rfl) ?_
        refine st (asI rfl) ?_
        refine rg_end ?_
        refine n_then ?_
        refine wp_ret ?_
        refine ret3 (v := (.int .i64 _)) (v' := (.bool _)) (v'' := (.int .i64 _)) Try.results37 rfl rfl rfl ?_
        exact ⟨_, _, _, rfl, by unfold LoopRes; rw [if_neg (by simp [hc0])]; refine ⟨rfl, ?_⟩; have h := hlm.1; rw [show k = N.evs.length by omega] at h; rw [show flatV m = m by unfold flatV; rw [if_neg hm1]]; simpa [hm1] using h, hE⟩

set_option maxRecDepth 100000 in
theorem law22_agrees_ok (N : Net) (A : NetA) (lo hi : Nat) (t : List Int) (at_ : Option Addr) (ct : Nat) (lt ht : Nat) (a i j dl : Int) (w : World) (hN : NetIn lo hi w N A) (hT : Ints lt ht w at_ t)  : Cal Try.prog 22 [netV N A, .slice at_ t.length ct, .int .i64 a, .int .i64 i, .int .i64 j, .int .i64 dl] w (fun v w' => v = .bool true ∧ Ext w w') := by
  replace hN := hN.full
  replace hT := Ints.full hT
  have hE : Out 0 0 w w := Out.refl _ _ w
  refine enter Try.func22 rfl Try.ntmps22 rfl ?_
  refine wp_seq ?_
  refine rg ?_
  refine sd (d_boxA rfl ?_)
  intro bl4 w1 hbbl4 hs3 ho2 hbl4
  have hz5 := ho2.size
  replace hN := hN.ext ho2
  replace hT := hT.ext ho2
  replace hE := hE.step ho2 (.inl (Nat.le_refl _))
  refine st (asB rfl) ?_
  refine rg_end ?_
  refine n_then ?_
  refine wp_seq ?_
  refine rg ?_
  refine st (y_lbN hbl4 agg26 rfl) ?_
  refine st (mvS rfl) ?_
  refine st (mvI rfl) ?_
  refine sc cl20 (robust_Cushion_ok N A _ _ t _ _ _ _ _ _ hN hT) rfl ?_
  rintro v10 w6 ⟨d1, e1, rfl, h1, ho7⟩
  have hz11 := ho7.size
  replace hN := hN.ext ho7
  replace hT := hT.ext ho7
  replace hE := hE.step ho7 (.inl (Nat.le_refl _))
  replace hbl4 := hbl4.ext ho7
  refine st (mvT rfl) ?_
  refine st (y_ext rfl rfl) ?_
  refine st (y_ext rfl rfl) ?_
  refine st (asI rfl) ?_
  refine st (asI rfl) ?_
  refine rg_end ?_
  refine n_then ?_
  refine wp_seq ?_
  refine rg ?_
  refine st (y_lbN hbl4 agg26 rfl) ?_
  refine st (mvS rfl) ?_
  refine st (mvI rfl) ?_
  refine sc cl34 (ref19_Cushion_ok N A _ _ t _ _ _ _ _ _ hN hT) rfl ?_
  rintro v16 w12 ⟨d2, e2, rfl, h2, ho13⟩
  obtain ⟨rfl, rfl⟩ := h2.uniq h1
  have hz17 := ho13.size
  replace hN := hN.ext ho13
  replace hT := hT.ext ho13
  replace hE := hE.step ho13 (.inl (Nat.le_refl _))
  replace hbl4 := hbl4.ext ho13
  refine st (mvT rfl) ?_
  refine st (y_ext rfl rfl) ?_
  refine st (y_ext rfl rfl) ?_
  refine st (asI rfl) ?_
  refine st (asI rfl) ?_
  refine rg_end ?_
  refine n_then ?_
  refine wp_seq ?_
  refine rg ?_
  refine st (y_lbN hbl4 agg26 rfl) ?_
  refine st (mvS rfl) ?_
  refine st (mvI rfl) ?_
  refine st (mvI rfl) ?_
  refine sc cl14 (robust_Distance_ok N A _ _ t _ _ _ _ _ _ _ hN hT) rfl ?_
  rintro v22 w18 ⟨d3, ok3, e3, rfl, h3, ho19⟩
  have hz23 := ho19.size
  replace hN := hN.ext ho19
  replace hT := hT.ext ho19
  replace hE := hE.step ho19 (.inl (Nat.le_refl _))
  replace hbl4 := hbl4.ext ho19
  refine st (mvT rfl) ?_
  refine st (y_ext rfl rfl) ?_
  refine st (y_ext rfl rfl) ?_
  refine st (y_ext rfl rfl) ?_
  refine st (asI rfl) ?_
  refine st (asB rfl) ?_
  refine st (asI rfl) ?_
  refine rg_end ?_
  refine n_then ?_
  refine wp_seq ?_
  refine rg ?_
  refine st (y_lbN hbl4 agg26 rfl) ?_
  refine st (mvS rfl) ?_
  refine st (mvI rfl) ?_
  refine st (mvI rfl) ?_
  refine sc cl35 (ref19_Distance_ok N A _ _ t _ _ _ _ _ _ _ hN hT) rfl ?_
  rintro v28 w24 ⟨d4, ok4, e4, rfl, h4, ho25⟩
  obtain ⟨rfl, rfl, rfl⟩ := DistRes.uniq h4 h3
  have hz29 := ho25.size
  replace hN := hN.ext ho25
  replace hT := hT.ext ho25
  replace hE := hE.step ho25 (.inl (Nat.le_refl _))
  replace hbl4 := hbl4.ext ho25
  refine st (mvT rfl) ?_
  refine st (y_ext rfl rfl) ?_
  refine st (y_ext rfl rfl) ?_
  refine st (y_ext rfl rfl) ?_
  refine st (asI rfl) ?_
  refine st (asB rfl) ?_
  refine st (asI rfl) ?_
  refine rg_end ?_
  refine n_then ?_
  refine wp_seq ?_
  refine rg ?_
  refine st (y_lbN hbl4 agg26 rfl) ?_
  refine st (mvS rfl) ?_
  refine st (mvI rfl) ?_
  refine st (mvI rfl) ?_
  refine sc cl17 (robust_Spread_ok N A _ _ t _ _ _ _ _ _ _ hN hT) rfl ?_
  rintro v34 w30 ⟨ad5, c5, x5, e5, rfl, h5, hS5, ho31⟩
  have hz35 := ho31.size
  replace hN := hN.ext ho31
  replace hT := hT.ext ho31
  replace hE := hE.step ho31 (.inl (Nat.le_refl _))
  replace hbl4 := hbl4.ext ho31
  refine st (mvT rfl) ?_
  refine st (y_ext rfl rfl) ?_
  refine st (y_ext rfl rfl) ?_
  refine st (asS rfl) ?_
  refine st (asI rfl) ?_
  refine rg_end ?_
  refine n_then ?_
  refine wp_seq ?_
  refine rg ?_
  refine st (y_lbN hbl4 agg26 rfl) ?_
  refine st (mvS rfl) ?_
  refine st (mvI rfl) ?_
  refine st (mvI rfl) ?_
  refine sc cl36 (ref19_Spread_ok N A _ _ t _ _ _ _ _ _ _ hN hT) rfl ?_
  rintro v40 w36 ⟨ad6, c6, x6, e6, rfl, h6, hS6, ho37⟩
  obtain ⟨rfl, rfl⟩ := SpreadRes.uniq h6 h5
  have hlen := SpreadRes.len48 h6
  have hz41 := ho37.size
  replace hN := hN.ext ho37
  replace hT := hT.ext ho37
  replace hE := hE.step ho37 (.inl (Nat.le_refl _))
  replace hbl4 := hbl4.ext ho37
  replace hS5 := hS5.ext ho37
  refine st (mvT rfl) ?_
  refine st (y_ext rfl rfl) ?_
  refine st (y_ext rfl rfl) ?_
  refine st (asS rfl) ?_
  refine st (asI rfl) ?_
  refine rg_end ?_
  refine n_then ?_
  refine wp_seq ?_
  refine rg ?_
  refine st (y_lbN hbl4 agg26 rfl) ?_
  refine st (mvS rfl) ?_
  refine sc cl16 (robust_Loop_ok N A _ _ t _ _ _ _ _ hN hT) rfl ?_
  rintro v46 w42 ⟨d7, ok7, e7, rfl, h7, ho43⟩
  have hz47 := ho43.size
  replace hN := hN.ext ho43
  replace hT := hT.ext ho43
  replace hE := hE.step ho43 (.inl (Nat.le_refl _))
  replace hbl4 := hbl4.ext ho43
  replace hS5 := hS5.ext ho43
  replace hS6 := hS6.ext ho43
  refine st (mvT rfl) ?_
  refine st (y_ext rfl rfl) ?_
  refine st (y_ext rfl rfl) ?_
  refine st (y_ext rfl rfl) ?_
  refine st (asI rfl) ?_
  refine st (asB rfl) ?_
  refine st (asI rfl) ?_
  refine rg_end ?_
  refine n_then ?_
  refine wp_seq ?_
  refine rg ?_
  refine st (y_lbN hbl4 agg26 rfl) ?_
  refine st (mvS rfl) ?_
  refine sc cl37 (ref19_Loop_ok N A _ _ t _ _ _ _ _ hN hT) rfl ?_
  rintro v52 w48 ⟨d8, ok8, e8, rfl, h8, ho49⟩
  obtain ⟨rfl, rfl, rfl⟩ := LoopRes.uniq h8 h7
  have hz53 := ho49.size
  replace hN := hN.ext ho49
  replace hT := hT.ext ho49
  replace hE := hE.step ho49 (.inl (Nat.le_refl _))
  replace hbl4 := hbl4.ext ho49
  replace hS5 := hS5.ext ho49
  replace hS6 := hS6.ext ho49
  refine st (mvT rfl) ?_
  refine st (y_ext rfl rfl) ?_
  refine st (y_ext rfl rfl) ?_
  refine st (y_ext rfl rfl) ?_
  refine st (asI rfl) ?_
  refine st (asB rfl) ?_
  refine st (asI rfl) ?_
  refine rg_end ?_
  refine n_then ?_
  refine wp_seq ?_
  refine rg ?_
  refine st (mvI rfl) ?_
  refine st (mvI rfl) ?_
  refine st (y_eql rfl rfl) ?_
  refine st (mvB rfl) ?_
  refine stg rfl rfl (by simp) (mvI rfl) ?_
  refine stg rfl rfl (by simp) (mvI rfl) ?_
  refine stg rfl rfl (by simp) (y_eql rfl rfl) ?_
  refine st (y_pickT rfl (by simp) (v := .bool _) rfl) ?_
  refine st (mvB rfl) ?_
  refine stg rfl rfl (by simp) (mvI rfl) ?_
  refine stg rfl rfl (by simp) (mvI rfl) ?_
  refine stg rfl rfl (by simp) (y_eql rfl rfl) ?_
  refine st (y_pickT rfl (by simp) (v := .bool _) rfl) ?_
  refine st (mvB rfl) ?_
  refine stg rfl rfl (by simp) (mvB rfl) ?_
  refine stg rfl rfl (by simp) (mvB rfl) ?_
  refine stg rfl rfl (by simp) (y_eqlB rfl rfl Try.underlying4) ?_
  refine st (y_pickT rfl (by simp) (v := .bool _) rfl) ?_
  refine st (mvB rfl) ?_
  refine stg rfl rfl (by simp) (mvI rfl) ?_
  refine stg rfl rfl (by simp) (mvI rfl) ?_
  refine stg rfl rfl (by simp) (y_eql rfl rfl) ?_
  refine st (y_pickT rfl (by simp) (v := .bool _) rfl) ?_
  refine st (mvB rfl) ?_
  refine stg rfl rfl (by simp) (mvS rfl) ?_
  refine stg rfl rfl (by simp) (mvS rfl) ?_
  refine scg rfl rfl (by simp) cl21 (keep_Same_int_ok _ _ _ _ _ _ _ _ _ _ _ hS5 hS6 hlen) rfl ?_
  rintro v58 w54 ⟨rfl, ho55⟩
  have hz59 := ho55.size
  replace hN := hN.ext ho55
  replace hT := hT.ext ho55
  replace hE := hE.step ho55 (.inl (Nat.le_refl _))
  replace hbl4 := hbl4.ext ho55
  replace hS5 := hS5.ext ho55
  replace hS6 := hS6.ext ho55
  refine st (y_pickT rfl (by simp) (v := .bool _) rfl) ?_
  refine st (mvB rfl) ?_
  refine stg rfl rfl (by simp) (mvI rfl) ?_
  refine stg rfl rfl (by simp) (mvI rfl) ?_
  refine stg rfl rfl (by simp) (y_eql rfl rfl) ?_
  refine st (y_pickT rfl (by simp) (v := .bool _) rfl) ?_
  refine st (mvB rfl) ?_
  refine stg rfl rfl (by simp) (mvI rfl) ?_
  refine stg rfl rfl (by simp) (mvI rfl) ?_
  refine stg rfl rfl (by simp) (y_eql rfl rfl) ?_
  refine st (y_pickT rfl (by simp) (v := .bool _) rfl) ?_
  refine st (mvB rfl) ?_
  refine stg rfl rfl (by simp) (mvB rfl) ?_
  refine stg rfl rfl (by simp) (mvB rfl) ?_
  refine stg rfl rfl (by simp) (y_eqlB rfl rfl Try.underlying4) ?_
  refine st (y_pickT rfl (by simp) (v := .bool _) rfl) ?_
  refine st (mvB rfl) ?_
  refine stg rfl rfl (by simp) (mvI rfl) ?_
  refine stg rfl rfl (by simp) (mvI rfl) ?_
  refine stg rfl rfl (by simp) (y_eql rfl rfl) ?_
  refine st (y_pickT rfl (by simp) (v := .bool _) rfl) ?_
  refine st (asB rfl) ?_
  refine rg_end ?_
  refine n_then ?_
  refine wp_ret ?_
  refine ret1 (v := (.bool _)) Try.results22 rfl ?_
  exact ⟨vb (by simp), hE⟩
end Go.Proofs.Ytggaekjnpbicnaa
