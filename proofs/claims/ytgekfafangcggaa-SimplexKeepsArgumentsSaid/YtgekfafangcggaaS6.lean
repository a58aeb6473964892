/-
  Walks of the functions, printed by a program out of the code and the loops' relations.
-/
import Derived.Test.YtgekfafangcggaaWkF
import Derived.Test.YtgekfafangcggaaProg
import Derived.KernelRfl
import Derived.Test.YtgekfafangcggaaS5
import Derived.Test.YtgekfafangcggaaSo
namespace Go.Proofs.Ytgekfafangcggaa
open Go.Wk Go.RowKit
set_option linter.unusedVariables false
set_option linter.unusedSimpArgs false
theorem bsl22_0  (w : World) : (Instr.buildSlice 22 0 [].toArray).run Try.prog w = .ok (.slice (some ⟨w.heap.size, 0, none⟩) 0 0) (w.alloc (.cells [].toArray 3)) := by kernel_rfl
theorem cl49 : Callable Try.prog 49 := ⟨Try.call49⟩
theorem cl60 : Callable Try.prog 60 := ⟨Try.call60⟩
theorem cl62 : Callable Try.prog 62 := ⟨Try.call62⟩

set_option maxRecDepth 100000 in
theorem clone_I_ok (ad : Option Addr) (c : Nat) (l : List Int) (lo hi : Nat) (w : World) (hL : Ints lo hi w ad l) (hn : (l.length : Int) ≤ 1000000) : Cal Try.prog 49 [.slice ad l.length c] w (fun v w' => ∃ ad' c', v = .slice ad' l.length c' ∧ Ow 3 Wk.encI 1 w.heap.size w'.heap.size w' ad' c' l ∧ Ext w w') := by
  replace hL := Ints.full hL
  have hE : Out 0 0 w w := Out.refl _ _ w
  refine enter Try.func49 rfl Try.ntmps49 rfl ?_
  refine wp_seq ?_
  refine rg ?_
  refine st (asS rfl) ?_
  refine rg_end ?_
  refine n_then ?_
  refine wp_seq ?_
  refine wp_seq ?_
  refine rg ?_
  refine st (mvS rfl) ?_
  refine st (y_nilS Try.underlying22 rfl rfl) ?_
  refine rg_end ?_
  refine n_then ?_
  refine cnd rfl (fun hc0 => ?_) (fun hc0 => ?_)
  ·
    try simp only [decide_eq_true_eq, decide_eq_false_iff_not, Bool.not_eq_true', Bool.not_eq_false', Bool.and_eq_true, Bool.or_eq_true, Bool.or_eq_false_iff, Bool.cond_true_right, Bool.cond_false_right, Bool.cond_true_left, Bool.cond_false_left, ne_eq, Decidable.not_not, bne_iff_ne, beq_iff_eq, beq_eq_false_iff_ne, Bool.not_true, Bool.not_false] at hc0
    have hnil : l = [] := by
      cases ad with
      | none => exact Classical.byContradiction fun h => by obtain ⟨⟨b, o, e⟩, _⟩ := hL.plain h; cases e
      | some a => simp at hc0
    refine wp_seq ?_
    refine rg ?_
    refine st (asS rfl) ?_
    refine rg_end ?_
    refine n_then ?_
    refine wp_ret ?_
    refine r_then (ret1 (v := (.slice _ _ _)) Try.results49 rfl ?_)
    subst hnil
    exact ⟨none, 0, rfl, Ow.nil (fun _ => rfl), hE⟩
  ·
    try simp only [decide_eq_true_eq, decide_eq_false_iff_not, Bool.not_eq_true', Bool.not_eq_false', Bool.and_eq_true, Bool.or_eq_true, Bool.or_eq_false_iff, Bool.cond_true_right, Bool.cond_false_right, Bool.cond_true_left, Bool.cond_false_left, ne_eq, Decidable.not_not, bne_iff_ne, beq_iff_eq, beq_eq_false_iff_ne, Bool.not_true, Bool.not_false] at hc0
    have hsome : ad.isSome = true := by cases ad with | none => simp at hc0 | some a => rfl
    refine wp_skip ?_
    refine n_then ?_
    refine wp_seq ?_
    refine rg ?_
    refine sd (d_bs0 (sz := 1) (lo := w.heap.size) (enc := Wk.encI) (fun _ => rfl) (bsl22_0 _) rfl (by omega) ?_)
    intro b0 w1 hbb0 hs3 ho2 hm
    have hz5 := ho2.size
    replace hL := hL.ext ho2
    replace hE := hE.step ho2 (.inl (Nat.le_refl _))
    refine st (mvS rfl) ?_
    have hrhm := hm.rng
    refine sd (d_appS (xs := l) hm sl22 infoz3 (by decide) rfl rfl rfl (rfl) (hsome) (hL) (fun _ => rfl) (by simp; unfold maxLen; omega) (by simp; omega) (by omega) (by omega) ?_)
    intro ad2 cc2 w6 ho7 hm'
    have hs8 := ho7.size
    clear hm; have hm := hm'; clear hm'
    have hz11 := ho7.size
    replace hL := hL.out ho7 (by first | omega | (simp only [blk_some, hi1_some] at *; omega))
    replace hE := hE.step ho7 (by first | omega | (simp only [blk_some, hi1_some] at *; omega))
    refine st (asS rfl) ?_
    refine rg_end ?_
    refine n_then ?_
    refine wp_ret ?_
    refine ret1 (v := (.slice _ _ _)) Try.results49 rfl ?_
    exact ⟨ad2, cc2, by simp, by simpa using hm, hE⟩

theorem flatI (l : List Int) : l.flatMap Wk.encI = l.map (fun x => Value.int .i64 x) := by
  induction l with
  | nil => rfl
  | cons x l ih => rw [List.flatMap_cons, ih]; rfl
theorem sort_out (w : World) (q g : Nat) (d : Array Int) (os : Array Obj) : Out g (g + 1) w (Sort.grow (Sort.putRow (Value.int .i64) (Sort.ahead w q) g 0 d) os) :=
  ⟨rfl, rfl, rfl, by simp [Sort.grow, Sort.putRow, Sort.mapBlock, Sort.ahead], fun k hk hs => by
    simp only [Sort.grow, Sort.putRow, Sort.mapBlock, Sort.ahead]
    rw [Array.getElem?_append_left (by simpa using hk), Array.getElem?_modify, if_neg (by omega)]⟩
theorem sort_ok (ad : Option Addr) (c : Nat) (l : List Int) (lo hi : Nat) (w : World) (hO : Ow 3 Wk.encI 1 lo hi w ad c l) (hne : l ≠ []) (hbig : l.length ≤ 1000000) :
    Cal Try.prog 62 [.slice ad l.length c] w (fun v w' => Ow 3 Wk.encI 1 lo hi w' ad c (l.mergeSort (fun x y => decide (x ≤ y))) ∧ Out (blk ad) (hi1 ad) w w') := by
  have hsl := hO.sl
  have ho := hO.owns
  have htop := hO.top
  obtain ⟨hlen, ⟨hv, h0⟩ | ⟨g, cap, cur, hv, hg, hb, hnc, hcm, hsz, htk⟩⟩ := ho
  · exact absurd (List.eq_nil_of_length_eq_zero h0) hne
  · injection hv with e1 e2 e3
    subst e1; subst e3
    have hlt := (Array.getElem?_eq_some_iff.1 hb).1
    have hH : Sort.Holds (Value.int .i64) w g 0 l.toArray := fun j hj => by
      have hj' : j < l.length := by simpa using hj
      have hq := hsl.cell j l[j] (List.getElem?_eq_getElem hj') 0 (.int .i64 l[j]) rfl
      refine ⟨?_, by simp [World.frozen?, hb]⟩
      have e : (l.toArray)[j]! = l[j] := by simp [hj']
      rw [e]
      simpa [blk, off] using hq
    have h := Any.slices_Sort_int Try.laysSort g 0 c l w hH hlt (by omega)
    refine Calls.mono h ?_
    rintro e w' ⟨rfl, q, os, rfl⟩
    have hS := List.length_mergeSort (le := fun x y => decide (x ≤ y)) l
    generalize l.mergeSort (fun x y => decide (x ≤ y)) = S at hS ⊢
    refine ⟨_, rfl, ⟨⟨by rw [flatI]; simp, .inr ⟨g, c, Sort.putCells (Value.int .i64) 0 S.toArray cur, rfl, hg, ?_, by omega, hcm, by simp [Sort.putCells, hsz], ?_⟩⟩, hO.len, htop⟩, sort_out w q g _ os⟩
    · simp only [Sort.grow, Sort.putRow, Sort.mapBlock, Sort.ahead]
      rw [Array.getElem?_append_left (by simpa using hlt), Array.getElem?_modify, if_pos rfl, hb]
      rfl
    · rw [flatI]
      apply List.ext_getElem?
      intro j
      by_cases hj : j < S.length
      · rw [List.getElem?_take_of_lt (by omega), Array.getElem?_toList, List.getElem?_map, List.getElem?_eq_getElem hj]
        simp only [Sort.putCells, Array.getElem?_mapIdx]
        rw [Array.getElem?_eq_getElem (by rw [hsz]; omega)]
        simp [hj]
      · rw [List.getElem?_eq_none (by rw [List.length_take]; omega), List.getElem?_eq_none (by rw [List.length_map]; omega)]
theorem fo_ge {N : Net} {tree : List Int} (h : FoOk N tree) : ∀ i : Nat, i < tree.length → (i : Int) ≤ el tree (i : Int)
  | 0, hi => (h.a.rng 0 hi).1
  | i + 1, hi => by
    have h1 := fo_ge h i (by omega)
    have h2 := h.a.asc i hi
    omega
theorem fo_len {N : Net} {tree : List Int} (h : FoOk N tree) : tree.length ≤ N.acts.length := by
  rcases Nat.eq_zero_or_pos tree.length with e | e
  · omega
  · have h1 := fo_ge h (tree.length - 1) (by omega)
    have h2 := (h.a.rng (tree.length - 1) (by omega)).2
    omega

set_option maxHeartbeats 4000000 in
set_option maxRecDepth 100000 in
theorem simplex_move_ok (N : Net) (A : NetA) (lo hi : Nat) (tree : List Int) (ar : Option Addr) (cr lr hr_ : Nat) (t : List Int) (at_ : Option Addr) (ct : Nat) (lt ht : Nat) (out into : Int) (am : Option Addr) (cm lm hm_ : Nat) (w : World) (hN : NetIn lo hi w N A) (hTr : Ints lr hr_ w ar tree) (htn : (tree.length : Int) ≤ 9223372036854775807) (hT : Ints lt ht w at_ t) (hM : Sl encB 1 lm hm_ w am (sdL N tree out)) (hfo : FoOk N tree) (hft : feas N t = true) (hma : MvA N tree out into) : Cal Try.prog 43 [netV N A, .slice ar tree.length cr, .slice at_ t.length ct, .slice am (sdL N tree out).length cm, .int .i64 out, .int .i64 into] w (fun v w' => ∃ af cf a1 c1, v = .tuple #[.slice af (moveF N tree out into).length cf, .slice a1 (moveT N tree t out into).length c1] ∧ Ow 3 Wk.encI 1 w.heap.size w'.heap.size w' af cf (moveF N tree out into) ∧ Ow 3 Wk.encI 1 w.heap.size w'.heap.size w' a1 c1 (moveT N tree t out into) ∧ (hi1 a1 ≤ blk af ∨ hi1 af = 0) ∧ Ext w w') := by
  replace hN := hN.full
  replace hTr := Ints.full hTr
  replace hT := Ints.full hT
  replace hM := acs_full hM
  have hok := hfo.ok
  have hac := hok.ac
  have hev := hok.ev
  have hp2 := hok.p2
  have hp7 := hok.p7
  have hg := (feas_iff.1 hft).1
  have htl := hg.len
  have hfl := fo_len hfo
  have hi0 := hma.i0
  have hi1_ := hma.i1
  have ha := hok.acs _ (el_mem hma.i0 hma.i1)
  have hsl := sdL_len (N := N) (tree := tree) (arc := out)
  have hsr := slk_rng (N := N) (t := t) (a := (el N.acts into)) hp2
  have hdr : -7200 ≤ moveD N tree t out into ∧ moveD N tree t out into ≤ 7200 := by unfold moveD; split <;> omega
  have hE : Out 0 0 w w := Out.refl _ _ w
  refine enter Try.func43 rfl Try.ntmps43 rfl ?_
  refine wp_seq ?_
  refine rg ?_
  refine sd (d_boxA rfl ?_)
  intro b6 w1 hbb6 hs3 ho2 hb6
  have hz4 := ho2.size
  replace hN := hN.ext ho2
  replace hTr := hTr.ext ho2
  replace hT := hT.ext ho2
  replace hM := hM.ext ho2
  replace hE := hE.step ho2 (.inl (Nat.le_refl _))
  refine st (asS rfl) ?_
  refine st (asS rfl) ?_
  refine rg_end ?_
  refine n_then ?_
  refine wp_seq ?_
  refine rgD 8 (fun w_ => Ext w1 w_) (fun i => false) mixed (by kernel_rfl) ?_
  intro w5 ho6 hs7
  refine ⟨ho6, ?_⟩
  have hx8 := ho6
  refine tn rfl (fun _ hG => y_lbN (hb6.ext hG) agg26 rfl) ?_
  refine tn rfl (fun _ hG => mvS rfl) ?_
  refine tn rfl (fun _ hG => y_fld fld26_2 rfl) ?_
  refine tn rfl (fun _ hG => y_lb (hb6.ext hG) na24 rfl rfl) ?_
  refine tn rfl (fun _ hG => mvI rfl) ?_
  refine tn rfl (fun _ hG => y_ix (hN.a.ext hG) sl24 rfl (rfl) rfl (by omega) (by omega)) ?_
  refine tn rfl (fun _ hG => y_lw (hN.a.ext hG) agg36 rfl (by omega) (by omega)) ?_
  refine tn rfl (fun _ hG => mvS rfl) ?_
  refine t_end ?_
  have hz9 := hx8.size
  replace hN := hN.ext hx8
  replace hTr := hTr.ext hx8
  replace hT := hT.ext hx8
  replace hM := hM.ext hx8
  replace hE := hE.step hx8 (.inl (Nat.le_refl _))
  replace hb6 := hb6.ext hx8
  refine sc cl60 (simplex_shift_ok N A _ _ t _ _ _ _ (el N.acts into) (sdL N tree out) _ _ _ _ _ hN hT hM hsl hg ha) rfl ?_
  rintro v14 w10 ⟨rfl, ho11⟩
  rw [show (if el (sdL N tree out) (el N.acts into).fr = true then slk N t (el N.acts into) else -slk N t (el N.acts into)) = moveD N tree t out into from rfl]
  have hz15 := ho11.size
  replace hN := hN.ext ho11
  replace hTr := hTr.ext ho11
  replace hT := hT.ext ho11
  replace hM := hM.ext ho11
  replace hE := hE.step ho11 (.inl (Nat.le_refl _))
  replace hb6 := hb6.ext ho11
  refine st (asI rfl) ?_
  refine rg_end ?_
  refine n_then ?_
  refine wp_seq ?_
  refine rg ?_
  refine st (mvS rfl) ?_
  obtain ⟨zc_, hzc_⟩ : ∃ z, z = w10.heap.size := ⟨_, rfl⟩
  refine sc cl49 (clone_I_ok _ _ t _ _ _ hT (by omega)) rfl ?_
  rintro v20 w16 ⟨a16, c16, rfl, hC, ho17⟩
  have hz21 := ho17.size
  replace hN := hN.ext ho17
  replace hTr := hTr.ext ho17
  replace hT := hT.ext ho17
  replace hM := hM.ext ho17
  replace hE := hE.step ho17 (.inl (Nat.le_refl _))
  replace hb6 := hb6.ext ho17
  have hCr := hC.rng
  obtain ⟨z6, hz6⟩ : ∃ z, z = w16.heap.size := ⟨_, rfl⟩
  refine st (asS rfl) ?_
  refine rg_end ?_
  refine n_then ?_
  refine wp_seq ?_
  refine wp_seq ?_
  refine rg ?_
  refine st (mvS rfl) ?_
  refine st (y_len Try.underlying22 rfl) ?_
  refine st (mvI rfl) ?_
  refine rg_end ?_
  refine n_then ?_
  refine wp_block ?_
  refine lp (γ := Nat × List Int) [16, 31, 32, 33, 34, 35, 36, 37, 38, 39, 40, 41, 42, 43, 44, 45, 46, 47, 48, 49, 50] (fun ⟨k, T⟩ => [(31, .int .i64 (k : Int))]) (fun ⟨k, T⟩ w_ => Out (blk a16) (hi1 a16) w16 w_ ∧ (k : Int) ≤ t.length ∧ T.length = t.length ∧ (∀ q : Nat, q < k → el T (q : Int) = if el (sdL N tree out) (q : Int) = true then (el t (q : Int) + moveD N tree t out into) % N.p else el t (q : Int)) ∧ (∀ q : Nat, k ≤ q → q < t.length → el T (q : Int) = el t (q : Int)) ∧ Ow 3 Wk.encI 1 zc_ z6 w_ a16 c16 T) (fun ⟨k, T⟩ => t.length - k) (0, t) ⟨rfl, trivial⟩ ⟨Out.refl _ _ _, by omega, rfl, (fun q hq => by omega), (fun q _ _ => rfl), (hC.lower (by omega)).wide (by omega)⟩ ?_
  rintro ⟨k, T⟩ hav_ w22 ⟨ho23, hk_, hTl, hlt, hge, hC⟩
  have hlp0 := ho23
  have hz24 := ho23.size
  replace hN := hN.out ho23 (by first | omega | (simp only [blk_some, hi1_some] at *; omega))
  replace hTr := hTr.out ho23 (by first | omega | (simp only [blk_some, hi1_some] at *; omega))
  replace hT := hT.out ho23 (by first | omega | (simp only [blk_some, hi1_some] at *; omega))
  replace hM := hM.out ho23 (by first | omega | (simp only [blk_some, hi1_some] at *; omega))
  replace hE := hE.step ho23 (by first | omega | (simp only [blk_some, hi1_some] at *; omega))
  replace hb6 := hb6.out ho23 (by first | omega | (simp only [blk_some, hi1_some] at *; omega))
  refine wp_seq ?_
  refine rg ?_
  refine st (y_lss rfl rfl) ?_
  refine rg_end ?_
  refine n_then ?_
  refine wp_seq ?_
  refine cnd rfl (fun hc0 => ?_) (fun hc0 => ?_)
  ·
    try simp only [decide_eq_true_eq, decide_eq_false_iff_not, Bool.not_eq_true', Bool.not_eq_false', Bool.and_eq_true, Bool.or_eq_true, Bool.or_eq_false_iff, Bool.cond_true_right, Bool.cond_false_right, Bool.cond_true_left, Bool.cond_false_left, ne_eq, Decidable.not_not, bne_iff_ne, beq_iff_eq, beq_eq_false_iff_ne, Bool.not_true, Bool.not_false] at hc0
    have hk2 := hge k (Nat.le_refl _) (by omega)
    have b3 := hg.rng _ (el_mem (l := t) (i := (k : Int)) (by omega) (by omega))
    refine wp_skip ?_
    refine n_then ?_
    refine wp_seq ?_
    refine wp_block ?_
    refine wp_seq ?_
    refine rg ?_
    refine st (mvI rfl) ?_
    refine st (asI rfl) ?_
    refine rg_end ?_
    refine n_then ?_
    refine wp_seq ?_
    refine rg ?_
    refine st (mvS rfl) ?_
    refine st (mvI rfl) ?_
    refine st (y_ix hM sl31 rfl (rfl) rfl (by omega) (by omega)) ?_
    refine st (y_le hM na4 rfl (by omega) (by omega) rfl) ?_
    refine rg_end ?_
    refine n_then ?_
    refine cnd rfl (fun hc1 => ?_) (fun hc1 => ?_)
    ·
      try simp only [decide_eq_true_eq, decide_eq_false_iff_not, Bool.not_eq_true', Bool.not_eq_false', Bool.and_eq_true, Bool.or_eq_true, Bool.or_eq_false_iff, Bool.cond_true_right, Bool.cond_false_right, Bool.cond_true_left, Bool.cond_false_left, ne_eq, Decidable.not_not, bne_iff_ne, beq_iff_eq, beq_eq_false_iff_ne, Bool.not_true, Bool.not_false] at hc1
      have hv : (if el (sdL N tree out) (k : Int) = true then (el t (k : Int) + moveD N tree t out into) % N.p else el t (k : Int)) = (el t (k : Int) + moveD N tree t out into) % N.p := if_pos hc1
      refine rgD 11 (fun w_ => Ext w22 w_) (fun i => Nat.beq i 10) mixed (by kernel_rfl) ?_
      intro w25 ho26 hs27
      refine ⟨ho26, ?_⟩
      have hx28 := ho26
      refine tn rfl (fun _ hG => mvS rfl) ?_
      refine tn rfl (fun _ hG => mvI rfl) ?_
      refine tn rfl (fun _ hG => mvS rfl) ?_
      refine tn rfl (fun _ hG => mvI rfl) ?_
      refine tn rfl (fun _ hG => y_ix (hC.ext hG).sl sl22 rfl (hTl.symm) rfl (by omega) (by omega)) ?_
      refine tn rfl (fun _ hG => y_le (hC.ext hG).sl na3 rfl (by omega) (by omega) rfl) ?_
      refine tn rfl (fun _ hG => mvI rfl) ?_
      refine tn rfl (fun _ hG => y_add rfl rfl (by rw [hk2]; omega)) ?_
      refine tn rfl (fun _ hG => y_fld fld26_0 rfl) ?_
      refine tn rfl (fun _ hG => y_lb (hb6.ext hG) na3 rfl rfl) ?_
      refine tc rfl cl61 (arith_Mod_ok _ _ _ (by rw [hk2]; omega) (by omega) (by omega)) rfl ?_
      rintro v33 w29 ⟨rfl, ho30⟩
      rw [hk2]
      have hx34 := hx28.step ho30 (.inl (Nat.le_refl _))
      have hz35 := ho30.size
      refine ⟨hx34, ?_⟩
      refine t_end ?_
      have hz36 := hx34.size
      replace hN := hN.ext hx34
      replace hTr := hTr.ext hx34
      replace hT := hT.ext hx34
      replace hM := hM.ext hx34
      replace hE := hE.step hx34 (.inl (Nat.le_refl _))
      replace hb6 := hb6.ext hx34
      replace hC := hC.ext hx34
      replace hlp0 := hlp0.step hx34 (.inl (Nat.le_refl _))
      refine st (y_ix hC.sl sl22 rfl (hTl.symm) rfl (by omega) (by omega)) ?_
      refine sd0 (d_se (j := 0) (e' := ((el t (k : Int) + moveD N tree t out into) % N.p)) hC sz3 rfl rfl rfl (by omega) (by omega) (Nat.le_of_ble_eq_true rfl) rfl ?_)
      intro w37 hs39 ho38 hC'
      have hrhC := hC.rng
      clear hC; have hC := hC'; clear hC'
      have hz40 := ho38.size
      replace hN := hN.out ho38 (by first | omega | (simp only [blk_some, hi1_some] at *; omega))
      replace hTr := hTr.out ho38 (by first | omega | (simp only [blk_some, hi1_some] at *; omega))
      replace hT := hT.out ho38 (by first | omega | (simp only [blk_some, hi1_some] at *; omega))
      replace hM := hM.out ho38 (by first | omega | (simp only [blk_some, hi1_some] at *; omega))
      replace hE := hE.step ho38 (by first | omega | (simp only [blk_some, hi1_some] at *; omega))
      replace hb6 := hb6.out ho38 (by first | omega | (simp only [blk_some, hi1_some] at *; omega))
      replace hlp0 := hlp0.step ho38 (by first | omega | (simp only [blk_some, hi1_some] at *; omega))
      have hlt1 : ∀ q : Nat, q < k + 1 → el (T.set (k : Int).toNat ((el t (k : Int) + moveD N tree t out into) % N.p)) (q : Int) = if el (sdL N tree out) (q : Int) = true then (el t (q : Int) + moveD N tree t out into) % N.p else el t (q : Int) := fun q hq => by
        by_cases e : q = k
        · subst e; rw [elSetS (by omega) (by omega), hv]
        · rw [elSetN (by omega) (by omega) (by omega)]; exact hlt q (by omega)
      have hge1 : ∀ q : Nat, k + 1 ≤ q → q < t.length → el (T.set (k : Int).toNat ((el t (k : Int) + moveD N tree t out into) % N.p)) (q : Int) = el t (q : Int) := fun q h1 h2 => by
        rw [elSetN (by omega) (by omega) (by omega)]; exact hge q (by omega) h2
      have hTl1 : (T.set (k : Int).toNat ((el t (k : Int) + moveD N tree t out into) % N.p)).length = t.length := by simp [hTl]
      refine rg_end ?_
      refine n_blk ?_
      refine n_then ?_
      refine rg ?_
      refine st (y_add rfl rfl (by omega)) ?_
      refine st (mvI rfl) ?_
      refine rg_end ?_
      exact n_then ⟨(k + 1, _), _, rfl, same_lk rfl (same_h0), ⟨rfl, trivial⟩, ⟨hlp0, by omega, hTl1, hlt1, hge1, hC⟩, by first | omega | (dsimp only; omega)⟩
    ·
      try simp only [decide_eq_true_eq, decide_eq_false_iff_not, Bool.not_eq_true', Bool.not_eq_false', Bool.and_eq_true, Bool.or_eq_true, Bool.or_eq_false_iff, Bool.cond_true_right, Bool.cond_false_right, Bool.cond_true_left, Bool.cond_false_left, ne_eq, Decidable.not_not, bne_iff_ne, beq_iff_eq, beq_eq_false_iff_ne, Bool.not_true, Bool.not_false] at hc1
      have hlt1 : ∀ q : Nat, q < k + 1 → el T (q : Int) = if el (sdL N tree out) (q : Int) = true then (el t (q : Int) + moveD N tree t out into) % N.p else el t (q : Int) := fun q hq => by
        by_cases e : q = k
        · subst e; rw [if_neg (by rw [hc1]; decide)]; exact hk2
        · exact hlt q (by omega)
      have hge1 : ∀ q : Nat, k + 1 ≤ q → q < t.length → el T (q : Int) = el t (q : Int) := fun q h1 h2 => hge q (by omega) h2
      have hTl1 := hTl
      refine wp_skip ?_
      refine n_blk ?_
      refine n_then ?_
      refine rg ?_
      refine st (y_add rfl rfl (by omega)) ?_
      refine st (mvI rfl) ?_
      refine rg_end ?_
      exact n_then ⟨(k + 1, _), _, rfl, same_lk rfl (same_h0), ⟨rfl, trivial⟩, ⟨hlp0, by omega, hTl1, hlt1, hge1, hC⟩, by first | omega | (dsimp only; omega)⟩
  ·
    try simp only [decide_eq_true_eq, decide_eq_false_iff_not, Bool.not_eq_true', Bool.not_eq_false', Bool.and_eq_true, Bool.or_eq_true, Bool.or_eq_false_iff, Bool.cond_true_right, Bool.cond_false_right, Bool.cond_true_left, Bool.cond_false_left, ne_eq, Decidable.not_not, bne_iff_ne, beq_iff_eq, beq_eq_false_iff_ne, Bool.not_true, Bool.not_false] at hc0
    have hTe : T = moveT N tree t out into := extEl (by unfold moveT; rw [hTl, shT_len]) (fun i i0 i1 => by
      obtain ⟨q, rfl⟩ := Int.eq_ofNat_of_zero_le i0
      unfold moveT
      rw [hlt q (by omega), shT_el (by omega) (by omega)])
    refine wp_exit ?_
    refine e_then (e_then (e_blk (?_)))
    refine n_then ?_
    refine wp_seq ?_
    refine rg ?_
    refine st (mvS rfl) ?_
    obtain ⟨zd_, hzd_⟩ : ∃ z, z = w22.heap.size := ⟨_, rfl⟩
    refine sc cl49 (clone_I_ok _ _ tree _ _ _ hTr (by omega)) rfl ?_
    rintro v45 w41 ⟨a17, c17, rfl, hD, ho42⟩
    have hz46 := ho42.size
    replace hN := hN.ext ho42
    replace hTr := hTr.ext ho42
    replace hT := hT.ext ho42
    replace hM := hM.ext ho42
    replace hE := hE.step ho42 (.inl (Nat.le_refl _))
    replace hb6 := hb6.ext ho42
    replace hC := hC.ext ho42
    have hDr := hD.rng
    refine st (asS rfl) ?_
    refine rg_end ?_
    refine n_then ?_
    refine wp_seq ?_
    refine rg ?_
    refine st (mvS rfl) ?_
    refine st (mvS rfl) ?_
    refine st (mvI rfl) ?_
    refine sc cl59 (slices_Index_ok tree _ _ _ _ out _ (Ow.sl hD) (by omega)) rfl ?_
    rintro v51 w47 ⟨ix, rfl, hix, ho48⟩
    have hix2 : 0 ≤ ix ∧ ix < tree.length ∧ el tree ix = out := by
      rcases hix with h | h
      · exact h.2
      · exact absurd hma.hm h.1
    obtain ⟨x0, x1, x2⟩ := hix2
    have hz52 := ho48.size
    replace hN := hN.ext ho48
    replace hTr := hTr.ext ho48
    replace hT := hT.ext ho48
    replace hM := hM.ext ho48
    replace hE := hE.step ho48 (.inl (Nat.le_refl _))
    replace hb6 := hb6.ext ho48
    replace hC := hC.ext ho48
    replace hD := hD.ext ho48
    refine st (mvI rfl) ?_
    refine st (y_ix hD.sl sl22 rfl (rfl) rfl (by omega) (by omega)) ?_
    refine sd0 (d_se (j := 0) (e' := into) hD sz3 rfl rfl rfl (by omega) (by omega) (Nat.le_of_ble_eq_true rfl) rfl ?_)
    intro w53 hs55 ho54 hD'
    have hrhD := hD.rng
    clear hD; have hD := hD'; clear hD'
    have hz56 := ho54.size
    replace hN := hN.out ho54 (by first | omega | (simp only [blk_some, hi1_some] at *; omega))
    replace hTr := hTr.out ho54 (by first | omega | (simp only [blk_some, hi1_some] at *; omega))
    replace hT := hT.out ho54 (by first | omega | (simp only [blk_some, hi1_some] at *; omega))
    replace hM := hM.out ho54 (by first | omega | (simp only [blk_some, hi1_some] at *; omega))
    replace hE := hE.step ho54 (by first | omega | (simp only [blk_some, hi1_some] at *; omega))
    replace hb6 := hb6.out ho54 (by first | omega | (simp only [blk_some, hi1_some] at *; omega))
    have hrnhC := hC.rng
    replace hC := hC.out ho54 (by first | omega | (simp only [blk_some, hi1_some] at *; omega))
    have hsf := sort_mvF hma hfo x0 x1 x2
    have hset : (tree.set ix.toNat into).length = tree.length := List.length_set
    rw [← hset]
    refine rg_end ?_
    refine n_then ?_
    refine wp_seq ?_
    refine rg ?_
    refine st (mvS rfl) ?_
    refine sc cl62 (sort_ok _ _ (tree.set ix.toNat into) _ _ _ hD (fun h => by have h2 := congrArg List.length h; simp at h2; rw [h2] at x1; simp at x1; omega) (by rw [hset]; omega)) rfl ?_
    rintro v61 w57 ⟨hD, ho58⟩
    rw [hsf] at hD
    have hz62 := ho58.size
    replace hN := hN.out ho58 (by first | omega | (simp only [blk_some, hi1_some] at *; omega))
    replace hTr := hTr.out ho58 (by first | omega | (simp only [blk_some, hi1_some] at *; omega))
    replace hT := hT.out ho58 (by first | omega | (simp only [blk_some, hi1_some] at *; omega))
    replace hM := hM.out ho58 (by first | omega | (simp only [blk_some, hi1_some] at *; omega))
    replace hE := hE.step ho58 (by first | omega | (simp only [blk_some, hi1_some] at *; omega))
    replace hb6 := hb6.out ho58 (by first | omega | (simp only [blk_some, hi1_some] at *; omega))
    replace hC := hC.out ho58 (by first | omega | (simp only [blk_some, hi1_some] at *; omega))
    refine rg_end ?_
    refine n_then ?_
    refine wp_seq ?_
    refine rg ?_
    refine st (mvS rfl) ?_
    refine st (mvS rfl) ?_
    refine st (asS rfl) ?_
    refine st (asS rfl) ?_
    refine rg_end ?_
    refine n_then ?_
    refine wp_ret ?_
    refine ret2 (v := (.slice _ _ _)) (v' := (.slice _ _ _)) Try.results43 rfl rfl ?_
    have hlm : (moveF N tree out into).length = tree.length := by rw [← hsf, List.length_mergeSort, hset]
    have hlt2 : (moveT N tree t out into).length = t.length := by unfold moveT; exact shT_len
    exact ⟨a17, c17, a16, c16, by rw [hlm, hlt2, hset], (hD.lower (by omega)).wide (by omega), by rw [← hTe]; exact (hC.lower (by omega)).wide (by omega), by omega, hE⟩
end Go.Proofs.Ytgekfafangcggaa
