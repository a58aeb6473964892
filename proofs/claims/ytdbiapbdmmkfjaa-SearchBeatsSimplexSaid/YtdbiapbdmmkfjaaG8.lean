/-
  Walks of the functions, printed by a program out of the code and the loops' relations.
-/
import Derived.Test.YtdbiapbdmmkfjaaWkG
import Derived.Test.YtdbiapbdmmkfjaaProg
import Derived.KernelRfl
import Derived.Test.YtdbiapbdmmkfjaaG7
namespace Go.Proofs.Ytdbiapbdmmkfjaa
open Go.Wk Go.RowKit
set_option linter.unusedVariables false
set_option linter.unusedSimpArgs false
theorem shp (b m : Nat) (x : World) : Sl (fun _ : Unit => ([] : List Value)) 1 b (b + 1) x (some ⟨b, 0, none⟩) (List.replicate m ()) := ⟨fun _ => ⟨⟨b, 0, rfl⟩, Nat.le_refl _, Nat.lt_succ_self _⟩, fun i x hx j y hy => by simp at hy⟩
def cutS (N : Net) (tree : List Int) (arc : Int) (q : Nat) (m : List Bool) : List Bool :=
  if el tree (q : Int) ≠ arc ∧ (el m (el N.acts (el tree (q : Int))).fr = true ∨ el m (el N.acts (el tree (q : Int))).tt = true) then (m.set (el N.acts (el tree (q : Int))).fr.toNat true).set (el N.acts (el tree (q : Int))).tt.toNat true else m
def cutI (N : Net) (tree : List Int) (arc : Int) (m : List Bool) : Nat → List Bool
  | 0 => m
  | q + 1 => cutS N tree arc q (cutI N tree arc m q)
def cutR (N : Net) (tree : List Int) (arc : Int) : Nat → List Bool
  | 0 => (List.replicate N.evs.length false).set (el N.acts arc).tt.toNat true
  | r + 1 => cutI N tree arc (cutR N tree arc r) tree.length
def cutL (N : Net) (tree : List Int) (arc : Int) : List Bool := cutR N tree arc N.evs.length
theorem cutI_len {N : Net} {tree : List Int} {arc : Int} {m : List Bool} : ∀ q : Nat, (cutI N tree arc m q).length = m.length
  | 0 => rfl
  | q + 1 => by unfold cutI cutS; split <;> simp [cutI_len q]
theorem cutR_len {N : Net} {tree : List Int} {arc : Int} : ∀ r : Nat, (cutR N tree arc r).length = N.evs.length
  | 0 => by simp [cutR]
  | r + 1 => by unfold cutR; rw [cutI_len, cutR_len r]

set_option maxRecDepth 100000 in
theorem ref13_in_ok (n lo hi : Int) (w : World) : Cal Try.prog 54 [.int .i64 n, .int .i64 lo, .int .i64 hi] w (fun v w' => v = .bool (decide (lo ≤ n ∧ n ≤ hi)) ∧ Ext w w') := by
  have hE : Out 0 0 w w := Out.refl _ _ w
  refine enter Try.func54 rfl Try.ntmps54 rfl ?_
  refine wp_seq ?_
  refine rg ?_
  refine st (asB rfl) ?_
  refine rg_end ?_
  refine n_then ?_
  refine wp_seq ?_
  refine rg ?_
  refine st (mvI rfl) ?_
  refine st (mvI rfl) ?_
  refine st (y_geq rfl rfl) ?_
  refine st (mvB rfl) ?_
  refine gspL 10 rfl (fun hg1 => ?_) (fun hg1 => ?_)
  ·
    have hg1n := hg1; try simp only [decide_eq_true_eq, decide_eq_false_iff_not, Bool.not_eq_true', Bool.not_eq_false', Bool.and_eq_true, Bool.or_eq_true, Bool.or_eq_false_iff, Bool.cond_true_right, Bool.cond_false_right, Bool.cond_true_left, Bool.cond_false_left, ne_eq, Decidable.not_not, bne_iff_ne, beq_iff_eq, beq_eq_false_iff_ne, Bool.not_true, Bool.not_false] at hg1n
    refine stg rfl rfl hg1 (mvI rfl) ?_
    refine stg rfl rfl hg1 (mvI rfl) ?_
    refine stg rfl rfl hg1 (y_leq rfl rfl) ?_
    refine st (y_pickT rfl hg1 (v := .bool _) rfl) ?_
    refine st (asB rfl) ?_
    refine rg_end ?_
    refine n_then ?_
    refine wp_ret ?_
    refine ret1 (v := (.bool _)) Try.results54 rfl ?_
    exact ⟨vb (by simp only [decide_eq_true_eq, decide_eq_false_iff_not, Bool.not_eq_true', Bool.not_eq_eq_eq_not, Bool.not_true, Bool.false_eq_true, false_iff, true_iff, iff_true, iff_false]; omega), hE⟩
  ·
    have hg1n := hg1; try simp only [decide_eq_true_eq, decide_eq_false_iff_not, Bool.not_eq_true', Bool.not_eq_false', Bool.and_eq_true, Bool.or_eq_true, Bool.or_eq_false_iff, Bool.cond_true_right, Bool.cond_false_right, Bool.cond_true_left, Bool.cond_false_left, ne_eq, Decidable.not_not, bne_iff_ne, beq_iff_eq, beq_eq_false_iff_ne, Bool.not_true, Bool.not_false] at hg1n
    refine sts rfl rfl hg1 ?_
    refine sts rfl rfl hg1 ?_
    refine sts rfl rfl hg1 ?_
    refine st (y_pickF rfl hg1 (v := .bool _) rfl) ?_
    refine st (asB rfl) ?_
    refine rg_end ?_
    refine n_then ?_
    refine wp_ret ?_
    refine ret1 (v := (.bool _)) Try.results54 rfl ?_
    exact ⟨vb (by simp only [decide_eq_true_eq, decide_eq_false_iff_not, Bool.not_eq_true', Bool.not_eq_eq_eq_not, Bool.not_true, Bool.false_eq_true, false_iff, true_iff, iff_true, iff_false]; omega), hE⟩

set_option maxRecDepth 100000 in
theorem ref13_has_ok (l : List Int) (al : Option Addr) (cl ll hl : Nat) (x : Int) (w : World) (hL : Ints ll hl w al l) (hn : (l.length : Int) ≤ 9223372036854775807) : Cal Try.prog 67 [.slice al l.length cl, .int .i64 x] w (fun v w' => v = .bool (decide (x ∈ l)) ∧ Ext w w') := by
  replace hL := Ints.full hL
  have hE : Out 0 0 w w := Out.refl _ _ w
  refine enter Try.func67 rfl Try.ntmps67 rfl ?_
  refine wp_seq ?_
  refine rg ?_
  refine st (asB rfl) ?_
  refine rg_end ?_
  refine n_then ?_
  refine wp_seq ?_
  refine wp_seq ?_
  refine rg ?_
  refine st (asI rfl) ?_
  refine rg_end ?_
  refine n_then ?_
  refine wp_block ?_
  refine lp (γ := Nat) [4, 5, 6, 7, 8, 9, 10, 11, 12, 13, 14, 15, 16, 17] (fun k => [(5, .int .i64 (k : Int))]) (fun k w_ => Ext w w_ ∧ (k : Int) ≤ l.length ∧ ∀ q : Nat, q < k → el l (q : Int) ≠ x) (fun k => l.length - k) 0 ⟨rfl, trivial⟩ ⟨Out.refl _ _ _, by omega, fun q hq => by omega⟩ ?_
  rintro k hav_ w1 ⟨ho2, hk, hall⟩
  have hlp0 := ho2
  have hz3 := ho2.size
  replace hL := hL.ext ho2
  replace hE := hE.step ho2 (.inl (Nat.le_refl _))
  refine wp_seq ?_
  refine wp_seq ?_
  refine rg ?_
  refine st (mvI rfl) ?_
  refine st (mvS rfl) ?_
  refine st (y_len Try.underlying22 rfl) ?_
  refine st (y_lss rfl rfl) ?_
  refine rg_end ?_
  refine n_then ?_
  refine cnd rfl (fun hc0 => ?_) (fun hc0 => ?_)
  ·
    try simp only [decide_eq_true_eq, decide_eq_false_iff_not, Bool.not_eq_true', Bool.not_eq_false', Bool.and_eq_true, Bool.or_eq_true, Bool.or_eq_false_iff, Bool.cond_true_right, Bool.cond_false_right, Bool.cond_true_left, Bool.cond_false_left, ne_eq, Decidable.not_not, bne_iff_ne, beq_iff_eq, beq_eq_false_iff_ne, Bool.not_true, Bool.not_false] at hc0
    refine wp_skip ?_
    refine n_then ?_
    refine wp_seq ?_
    refine wp_block ?_
    refine wp_seq ?_
    refine rg ?_
    refine st (mvS rfl) ?_
    refine st (mvI rfl) ?_
    refine st (y_ix hL sl22 rfl (rfl) rfl (by omega) (by omega)) ?_
    refine st (y_le hL na3 rfl (by omega) (by omega) rfl) ?_
    refine st (mvI rfl) ?_
    refine st (y_eql rfl rfl) ?_
    refine rg_end ?_
    refine n_then ?_
    refine cnd rfl (fun hc1 => ?_) (fun hc1 => ?_)
    ·
      try simp only [decide_eq_true_eq, decide_eq_false_iff_not, Bool.not_eq_true', Bool.not_eq_false', Bool.and_eq_true, Bool.or_eq_true, Bool.or_eq_false_iff, Bool.cond_true_right, Bool.cond_false_right, Bool.cond_true_left, Bool.cond_false_left, ne_eq, Decidable.not_not, bne_iff_ne, beq_iff_eq, beq_eq_false_iff_ne, Bool.not_true, Bool.not_false] at hc1
      have hin : x ∈ l := hc1 ▸ el_mem (by omega) (by omega)
      refine wp_seq ?_
      refine rg ?_
      refine st (asB rfl) ?_
      refine rg_end ?_
      refine n_then ?_
      refine wp_ret ?_
      refine r_blk (r_then (r_then (r_blk (r_then (ret1 (v := (.bool _)) Try.results67 rfl ?_)))))
      exact ⟨vb (by simp [hin]), hE⟩
    ·
      try simp only [decide_eq_true_eq, decide_eq_false_iff_not, Bool.not_eq_true', Bool.not_eq_false', Bool.and_eq_true, Bool.or_eq_true, Bool.or_eq_false_iff, Bool.cond_true_right, Bool.cond_false_right, Bool.cond_true_left, Bool.cond_false_left, ne_eq, Decidable.not_not, bne_iff_ne, beq_iff_eq, beq_eq_false_iff_ne, Bool.not_true, Bool.not_false] at hc1
      have hall1 : ∀ q : Nat, q < k + 1 → el l (q : Int) ≠ x := fun q hq => by
        by_cases e : q = k
        · subst e; exact hc1
        · exact hall q (by omega)
      refine wp_skip ?_
      refine n_blk ?_
      refine n_then ?_
      refine rg ?_
      refine st (mvI rfl) ?_
      refine st (y_add rfl rfl (by omega)) ?_
      refine st (asI rfl) ?_
      refine rg_end ?_
      exact n_then ⟨k + 1, _, rfl, same_lk rfl (same_h0), ⟨rfl, trivial⟩, ⟨hlp0, by omega, hall1⟩, by first | omega | (dsimp only; omega)⟩
  ·
    try simp only [decide_eq_true_eq, decide_eq_false_iff_not, Bool.not_eq_true', Bool.not_eq_false', Bool.and_eq_true, Bool.or_eq_true, Bool.or_eq_false_iff, Bool.cond_true_right, Bool.cond_false_right, Bool.cond_true_left, Bool.cond_false_left, ne_eq, Decidable.not_not, bne_iff_ne, beq_iff_eq, beq_eq_false_iff_ne, Bool.not_true, Bool.not_false] at hc0
    have hni : ¬ x ∈ l := fun h => by
      obtain ⟨i, hi, e⟩ := List.getElem_of_mem h
      exact hall i (by omega) (by simpa [el, hi] using e)
    refine wp_exit ?_
    refine e_then (e_then (e_blk (?_)))
    refine n_then ?_
    refine wp_seq ?_
    refine rg ?_
    refine st (asB rfl) ?_
    refine rg_end ?_
    refine n_then ?_
    refine wp_ret ?_
    refine ret1 (v := (.bool _)) Try.results67 rfl ?_
    exact ⟨vb (by simp [hni]), hE⟩

set_option maxHeartbeats 2000000 in
set_option maxRecDepth 100000 in
theorem ref13_cut_ok (N : Net) (A : NetA) (lo hi : Nat) (tree : List Int) (at_ : Option Addr) (ct lt ht : Nat) (arc : Int) (w : World) (hN : NetIn lo hi w N A) (hT : Ints lt ht w at_ tree) (htn : (tree.length : Int) ≤ 9223372036854775807) (hok : NetOk N) (htm : ∀ a ∈ tree, 0 ≤ a ∧ a < N.acts.length) (a0 : 0 ≤ arc) (a1 : arc < N.acts.length) : Cal Try.prog 68 [netV N A, .slice at_ tree.length ct, .int .i64 arc] w (fun v w' => ∃ ad c, v = .slice ad N.evs.length c ∧ Sl encB 1 w.heap.size w'.heap.size w' ad (cutL N tree arc) ∧ (cutL N tree arc).length = N.evs.length ∧ Ext w w') := by
  replace hN := hN.full
  replace hT := Ints.full hT
  have hev := hok.ev
  have hac := hok.ac
  have haa := hok.acs _ (el_mem a0 a1)
  have hE : Out 0 0 w w := Out.refl _ _ w
  refine enter Try.func68 rfl Try.ntmps68 rfl ?_
  refine wp_seq ?_
  refine rg ?_
  refine sd (d_boxA rfl ?_)
  intro b3 w1 hbb3 hs3 ho2 hb3
  have hz4 := ho2.size
  replace hN := hN.ext ho2
  replace hT := hT.ext ho2
  replace hE := hE.step ho2 (.inl (Nat.le_refl _))
  refine st (asS rfl) ?_
  refine rg_end ?_
  refine n_then ?_
  refine wp_seq ?_
  refine rg ?_
  refine st (y_fld fld26_1 rfl) ?_
  refine st (y_lb hb3 na23 rfl rfl) ?_
  refine st (y_len Try.underlying23 rfl) ?_
  refine sd (d_make (m := N.evs.length) (lo := w1.heap.size) (enc := encB) (e0 := false) sl68 info4 (fun _ => rfl) rfl rfl rfl (by omega) (by unfold maxLen; omega) (by omega) ?_)
  intro bm w5 hbbm hs7 ho6 hm
  have hz9 := ho6.size
  replace hN := hN.ext ho6
  replace hT := hT.ext ho6
  replace hE := hE.step ho6 (.inl (Nat.le_refl _))
  replace hb3 := hb3.ext ho6
  refine st (asS rfl) ?_
  refine rg_end ?_
  refine n_then ?_
  refine wp_seq ?_
  refine rg ?_
  refine st (mvS rfl) ?_
  refine st (y_fld fld26_2 rfl) ?_
  refine st (y_lb hb3 na24 rfl rfl) ?_
  refine st (mvI rfl) ?_
  refine st (y_ix hN.a sl24 rfl (rfl) rfl (a0) (a1)) ?_
  refine st (y_fld fld62_2 rfl) ?_
  refine st (y_lf hN.a na3 rfl (a0) (a1) rfl) ?_
  refine st (y_ix hm.sl sl68 rfl (by simp) rfl (haa.t0) (by simp; have := haa.t1; omega)) ?_
  refine sd0 (d_se (j := 0) (e' := true) hm sz4 rfl rfl rfl (haa.t0) (by simp; have := haa.t1; omega) (Nat.le_of_ble_eq_true rfl) rfl ?_)
  intro w10 hs12 ho11 hm'
  have hrhm := hm.rng
  clear hm; have hm := hm'; clear hm'
  have hz13 := ho11.size
  replace hN := hN.out ho11 (by first | omega | (simp only [blk_some, hi1_some] at *; omega))
  replace hT := hT.out ho11 (by first | omega | (simp only [blk_some, hi1_some] at *; omega))
  replace hE := hE.step ho11 (by first | omega | (simp only [blk_some, hi1_some] at *; omega))
  replace hb3 := hb3.out ho11 (by first | omega | (simp only [blk_some, hi1_some] at *; omega))
  refine rg_end ?_
  refine n_then ?_
  refine wp_seq ?_
  refine wp_seq ?_
  refine rg ?_
  refine st (asI rfl) ?_
  refine rg_end ?_
  refine n_then ?_
  refine wp_block ?_
  refine lp (γ := Nat) [8, 9, 10, 23, 24, 25, 26, 27, 28, 29, 30, 31, 32, 33, 34, 35, 36, 37, 38, 39, 40, 41, 42, 43, 44, 45, 46, 47, 48, 49, 50, 51, 52, 53, 54, 55, 56, 57, 58, 59, 60, 61, 62, 63, 64, 65, 66, 67, 68, 69, 70] (fun r => [(8, .int .i64 (r : Int))]) (fun r w_ => Out bm (bm + 1) w10 w_ ∧ (r : Int) ≤ N.evs.length ∧ Ow 4 encB 1 bm (bm + 1) w_ (some ⟨bm, 0, none⟩) N.evs.length  (cutR N tree arc r)) (fun r => N.evs.length - r) 0 ⟨rfl, trivial⟩ ⟨Out.refl _ _ _, by omega, hm.lower (by omega)⟩ ?_
  rintro r hav_ w14 ⟨ho15, hr_, hm⟩
  have hlp0 := ho15
  have hz16 := ho15.size
  replace hN := hN.out ho15 (by first | omega | (simp only [blk_some, hi1_some] at *; omega))
  replace hT := hT.out ho15 (by first | omega | (simp only [blk_some, hi1_some] at *; omega))
  replace hE := hE.step ho15 (by first | omega | (simp only [blk_some, hi1_some] at *; omega))
  replace hb3 := hb3.out ho15 (by first | omega | (simp only [blk_some, hi1_some] at *; omega))
  refine wp_seq ?_
  refine wp_seq ?_
  refine rg ?_
  refine st (mvI rfl) ?_
  refine st (mvS rfl) ?_
  refine st (y_len Try.underlying68 rfl) ?_
  refine st (y_lss rfl rfl) ?_
  refine rg_end ?_
  refine n_then ?_
  refine cnd rfl (fun hc0 => ?_) (fun hc0 => ?_)
  ·
    try simp only [decide_eq_true_eq, decide_eq_false_iff_not, Bool.not_eq_true', Bool.not_eq_false', Bool.and_eq_true, Bool.or_eq_true, Bool.or_eq_false_iff, Bool.cond_true_right, Bool.cond_false_right, Bool.cond_true_left, Bool.cond_false_left, ne_eq, Decidable.not_not, bne_iff_ne, beq_iff_eq, beq_eq_false_iff_ne, Bool.not_true, Bool.not_false] at hc0
    refine wp_skip ?_
    refine n_then ?_
    refine wp_seq ?_
    refine wp_block ?_
    refine wp_seq ?_
    refine rg ?_
    refine st (asI rfl) ?_
    refine rg_end ?_
    refine n_then ?_
    refine wp_block ?_
    refine lp (γ := Nat) [9, 10, 29, 30, 31, 32, 33, 34, 35, 36, 37, 38, 39, 40, 41, 42, 43, 44, 45, 46, 47, 48, 49, 50, 51, 52, 53, 54, 55, 56, 57, 58, 59, 60, 61, 62, 63, 64, 65, 66, 67, 68, 69, 70] (fun q => [(9, .int .i64 (q : Int))]) (fun q w_ => Out bm (bm + 1) w14 w_ ∧ (q : Int) ≤ tree.length ∧ Ow 4 encB 1 bm (bm + 1) w_ (some ⟨bm, 0, none⟩) N.evs.length  (cutI N tree arc (cutR N tree arc r) q)) (fun q => tree.length - q) 0 ⟨rfl, trivial⟩ ⟨Out.refl _ _ _, by omega, hm⟩ ?_
    rintro q hav_ w17 ⟨ho18, hq_, hm⟩
    have hlp1 := ho18
    have hz19 := ho18.size
    replace hN := hN.out ho18 (by first | omega | (simp only [blk_some, hi1_some] at *; omega))
    replace hT := hT.out ho18 (by first | omega | (simp only [blk_some, hi1_some] at *; omega))
    replace hE := hE.step ho18 (by first | omega | (simp only [blk_some, hi1_some] at *; omega))
    replace hb3 := hb3.out ho18 (by first | omega | (simp only [blk_some, hi1_some] at *; omega))
    replace hlp0 := hlp0.step ho18 (by first | omega | (simp only [blk_some, hi1_some] at *; omega))
    refine wp_seq ?_
    refine wp_seq ?_
    refine rg ?_
    refine st (mvI rfl) ?_
    refine st (mvS rfl) ?_
    refine st (y_len Try.underlying22 rfl) ?_
    refine st (y_lss rfl rfl) ?_
    refine rg_end ?_
    refine n_then ?_
    refine cnd rfl (fun hc1 => ?_) (fun hc1 => ?_)
    ·
      try simp only [decide_eq_true_eq, decide_eq_false_iff_not, Bool.not_eq_true', Bool.not_eq_false', Bool.and_eq_true, Bool.or_eq_true, Bool.or_eq_false_iff, Bool.cond_true_right, Bool.cond_false_right, Bool.cond_true_left, Bool.cond_false_left, ne_eq, Decidable.not_not, bne_iff_ne, beq_iff_eq, beq_eq_false_iff_ne, Bool.not_true, Bool.not_false] at hc1
      have htq := htm _ (el_mem (l := tree) (i := (q : Int)) (by omega) hc1)
      have ha := hok.acs _ (el_mem htq.1 htq.2)
      have hml : (cutI N tree arc (cutR N tree arc r) q).length = N.evs.length := by rw [cutI_len, cutR_len]
      refine wp_skip ?_
      refine n_then ?_
      refine wp_seq ?_
      refine wp_block ?_
      refine wp_seq ?_
      refine rgD 9 (fun w_ => Ext w17 w_) (fun i => Nat.beq i 8) mixed (by kernel_rfl) ?_
      intro w20 ho21 hs22
      refine ⟨ho21, ?_⟩
      have hx23 := ho21
      refine tn rfl (fun _ hG => y_fld fld26_2 rfl) ?_
      refine tn rfl (fun _ hG => y_lb (hb3.ext hG) na24 rfl rfl) ?_
      refine tn rfl (fun _ hG => mvS rfl) ?_
      refine tn rfl (fun _ hG => mvI rfl) ?_
      refine tn rfl (fun _ hG => y_ix (hT.ext hG) sl22 rfl (rfl) rfl (by omega) (by omega)) ?_
      refine tn rfl (fun _ hG => y_le (hT.ext hG) na3 rfl (by omega) (by omega) rfl) ?_
      refine tn rfl (fun _ hG => y_ix (hN.a.ext hG) sl24 rfl (rfl) rfl (by omega) (by omega)) ?_
      refine tn rfl (fun _ hG => y_lw (hN.a.ext hG) agg62 rfl (by omega) (by omega)) ?_
      refine td rfl (d_allocA zer62 ?_)
      intro b10 w24 hbb10 hs26 ho25 hb10
      have hx27 := hx23.step ho25 (.inl (Nat.le_refl _))
      have hz28 := ho25.size
      refine ⟨hx27, ?_⟩
      refine t_end ?_
      have hz29 := hx27.size
      replace hN := hN.ext hx27
      replace hT := hT.ext hx27
      replace hE := hE.step hx27 (.inl (Nat.le_refl _))
      replace hb3 := hb3.ext hx27
      replace hlp0 := hlp0.step hx27 (.inl (Nat.le_refl _))
      replace hm := hm.ext hx27
      replace hlp1 := hlp1.step hx27 (.inl (Nat.le_refl _))
      refine sd0 (d_stN hb10 rfl rfl sz62 rfl rfl ?_)
      intro w30 hs32 ho31 hb10'
      clear hb10; have hb10 := hb10'; clear hb10'
      have hz33 := ho31.size
      replace hN := hN.out ho31 (by first | omega | (simp only [blk_some, hi1_some] at *; omega))
      replace hT := hT.out ho31 (by first | omega | (simp only [blk_some, hi1_some] at *; omega))
      replace hE := hE.step ho31 (by first | omega | (simp only [blk_some, hi1_some] at *; omega))
      replace hb3 := hb3.out ho31 (by first | omega | (simp only [blk_some, hi1_some] at *; omega))
      replace hlp0 := hlp0.step ho31 (by first | omega | (simp only [blk_some, hi1_some] at *; omega))
      have hrnhm := hm.rng
      replace hm := hm.out ho31 (by first | omega | (simp only [blk_some, hi1_some] at *; omega))
      replace hlp1 := hlp1.step ho31 (by first | omega | (simp only [blk_some, hi1_some] at *; omega))
      refine rg_end ?_
      refine n_then ?_
      refine wp_seq ?_
      refine rg ?_
      refine st (mvS rfl) ?_
      refine st (mvI rfl) ?_
      refine st (y_ix hT sl22 rfl (rfl) rfl (by omega) (by omega)) ?_
      refine st (y_le hT na3 rfl (by omega) (by omega) rfl) ?_
      refine st (mvI rfl) ?_
      refine st (y_neq rfl rfl) ?_
      refine st (mvB rfl) ?_
      refine gspL 49 rfl (fun hg34 => ?_) (fun hg34 => ?_)
      ·
        have hg34n := hg34; try simp only [decide_eq_true_eq, decide_eq_false_iff_not, Bool.not_eq_true', Bool.not_eq_false', Bool.and_eq_true, Bool.or_eq_true, Bool.or_eq_false_iff, Bool.cond_true_right, Bool.cond_false_right, Bool.cond_true_left, Bool.cond_false_left, ne_eq, Decidable.not_not, bne_iff_ne, beq_iff_eq, beq_eq_false_iff_ne, Bool.not_true, Bool.not_false] at hg34n
        refine stg rfl rfl hg34 (mvS rfl) ?_
        refine stg rfl rfl hg34 (y_fld fld62_1 rfl) ?_
        refine stg rfl rfl hg34 (y_lb hb10 na3 rfl rfl) ?_
        refine stg rfl rfl hg34 (y_ix hm.sl sl68 rfl ((by rw [cutI_len, cutR_len])) rfl (ha.f0) (by have := ha.f1; omega)) ?_
        refine stg rfl rfl hg34 (y_le hm.sl na4 rfl (ha.f0) (by have := ha.f1; omega) rfl) ?_
        refine stg rfl rfl hg34 (mvB rfl) ?_
        refine gspL 55 rfl (fun hg35 => ?_) (fun hg35 => ?_)
        ·
          have hg35n := hg35; try simp only [decide_eq_true_eq, decide_eq_false_iff_not, Bool.not_eq_true', Bool.not_eq_false', Bool.and_eq_true, Bool.or_eq_true, Bool.or_eq_false_iff, Bool.cond_true_right, Bool.cond_false_right, Bool.cond_true_left, Bool.cond_false_left, ne_eq, Decidable.not_not, bne_iff_ne, beq_iff_eq, beq_eq_false_iff_ne, Bool.not_true, Bool.not_false] at hg35n
          refine sts rfl rfl hg35 ?_
          refine sts rfl rfl hg35 ?_
          refine sts rfl rfl hg35 ?_
          refine sts rfl rfl hg35 ?_
          refine sts rfl rfl hg35 ?_
          refine stg rfl rfl hg34 (y_pickT rfl hg35 (v := .bool _) rfl) ?_
          refine st (y_pickT rfl hg34 (v := .bool _) rfl) ?_
          refine rg_end ?_
          refine n_then ?_
          refine cnd rfl (fun hc2 => ?_) (fun hc2 => absurd hc2 (by decide))
          have hcs : cutI N tree arc (cutR N tree arc r) (q + 1) = ((cutI N tree arc (cutR N tree arc r) q).set (el N.acts (el tree (q : Int))).fr.toNat true).set (el N.acts (el tree (q : Int))).tt.toNat true := by
            show cutS N tree arc q _ = _
            unfold cutS
            rw [if_pos ⟨by assumption, by first | exact .inl (by assumption) | exact .inr (by assumption)⟩]
          refine rgD 8 (fun w_ => Out bm (bm + 1) w30 w_) (fun i => Nat.beq i 7) mixed (by kernel_rfl) ?_
          intro w36 ho37 hs38
          refine ⟨ho37.wide (.inl (Nat.le_refl _)), ?_⟩
          have hx39 := ho37.wide (a' := bm) (b' := (bm + 1)) (.inl (Nat.le_refl _))
          replace hm := hm.ext ho37
          refine tn rfl (fun _ hG => mvS rfl) ?_
          refine tn rfl (fun _ hG => y_fld fld62_1 rfl) ?_
          refine tn rfl (fun _ hG => y_lb (hb10.out hG (by first | omega | (simp only [blk_some, hi1_some] at *; omega))) na3 rfl rfl) ?_
          refine tn rfl (fun _ hG => mvS rfl) ?_
          refine tn rfl (fun _ hG => y_fld fld62_2 rfl) ?_
          refine tn rfl (fun _ hG => y_lb (hb10.out hG (by first | omega | (simp only [blk_some, hi1_some] at *; omega))) na3 rfl rfl) ?_
          refine tn rfl (fun _ hG => y_ix (shp bm N.evs.length _) sl68 rfl (by simp) rfl (ha.f0) (by simp; have := ha.f1; omega)) ?_
          refine td0 rfl (d_se (j := 0) (e' := true) hm sz4 rfl rfl rfl (ha.f0) (by have := ha.f1; omega) (Nat.le_of_ble_eq_true rfl) rfl ?_)
          intro w40 hs42 ho41 hm'
          have hrhm := hm.rng
          clear hm; have hm := hm'; clear hm'
          have hx43 : Out bm (bm + 1) w30 w40 := hx39.step ho41 (by first | omega | (simp only [blk_some, hi1_some] at *; omega))
          have hz44 := ho41.size
          refine ⟨hx43, ?_⟩
          refine t_end ?_
          have hz45 := hx43.size
          replace hN := hN.out hx43 (by first | omega | (simp only [blk_some, hi1_some] at *; omega))
          replace hT := hT.out hx43 (by first | omega | (simp only [blk_some, hi1_some] at *; omega))
          replace hE := hE.step hx43 (by first | omega | (simp only [blk_some, hi1_some] at *; omega))
          replace hb3 := hb3.out hx43 (by first | omega | (simp only [blk_some, hi1_some] at *; omega))
          replace hlp0 := hlp0.step hx43 (by first | omega | (simp only [blk_some, hi1_some] at *; omega))
          replace hlp1 := hlp1.step hx43 (by first | omega | (simp only [blk_some, hi1_some] at *; omega))
          replace hb10 := hb10.out hx43 (by first | omega | (simp only [blk_some, hi1_some] at *; omega))
          refine st (y_ix hm.sl sl68 rfl (by simp; omega) rfl (ha.t0) (by simp; have := ha.t1; omega)) ?_
          refine sd0 (d_se (j := 0) (e' := true) hm sz4 rfl rfl rfl (ha.t0) (by simp; have := ha.t1; omega) (Nat.le_of_ble_eq_true rfl) rfl ?_)
          intro w46 hs48 ho47 hm'
          have hrhm := hm.rng
          clear hm; have hm := hm'; clear hm'
          have hz49 := ho47.size
          replace hN := hN.out ho47 (by first | omega | (simp only [blk_some, hi1_some] at *; omega))
          replace hT := hT.out ho47 (by first | omega | (simp only [blk_some, hi1_some] at *; omega))
          replace hE := hE.step ho47 (by first | omega | (simp only [blk_some, hi1_some] at *; omega))
          replace hb3 := hb3.out ho47 (by first | omega | (simp only [blk_some, hi1_some] at *; omega))
          replace hlp0 := hlp0.step ho47 (by first | omega | (simp only [blk_some, hi1_some] at *; omega))
          replace hlp1 := hlp1.step ho47 (by first | omega | (simp only [blk_some, hi1_some] at *; omega))
          replace hb10 := hb10.out ho47 (by first | omega | (simp only [blk_some, hi1_some] at *; omega))
          refine rg_end ?_
          refine n_blk ?_
          refine n_then ?_
          refine rg ?_
          refine st (mvI rfl) ?_
          refine st (y_add rfl rfl (by omega)) ?_
          refine st (asI rfl) ?_
          refine rg_end ?_
          exact n_then ⟨q + 1, _, rfl, same_lk rfl (same_h0), ⟨rfl, trivial⟩, ⟨hlp1, by omega, by rw [hcs]; exact hm⟩, by first | omega | (dsimp only; omega)⟩
        ·
          have hg35n := hg35; try simp only [decide_eq_true_eq, decide_eq_false_iff_not, Bool.not_eq_true', Bool.not_eq_false', Bool.and_eq_true, Bool.or_eq_true, Bool.or_eq_false_iff, Bool.cond_true_right, Bool.cond_false_right, Bool.cond_true_left, Bool.cond_false_left, ne_eq, Decidable.not_not, bne_iff_ne, beq_iff_eq, beq_eq_false_iff_ne, Bool.not_true, Bool.not_false] at hg35n
          refine stg rfl rfl hg35 (mvS rfl) ?_
          refine stg rfl rfl hg35 (y_fld fld62_2 rfl) ?_
          refine stg rfl rfl hg35 (y_lb hb10 na3 rfl rfl) ?_
          refine stg rfl rfl hg35 (y_ix hm.sl sl68 rfl ((by rw [cutI_len, cutR_len])) rfl (ha.t0) (by have := ha.t1; omega)) ?_
          refine stg rfl rfl hg35 (y_le hm.sl na4 rfl (ha.t0) (by have := ha.t1; omega) rfl) ?_
          refine stg rfl rfl hg34 (y_pickF rfl hg35 (v := .bool _) rfl) ?_
          refine st (y_pickT rfl hg34 (v := .bool _) rfl) ?_
          refine rg_end ?_
          refine n_then ?_
          refine cnd rfl (fun hc2 => ?_) (fun hc2 => ?_)
          ·
            try simp only [decide_eq_true_eq, decide_eq_false_iff_not, Bool.not_eq_true', Bool.not_eq_false', Bool.and_eq_true, Bool.or_eq_true, Bool.or_eq_false_iff, Bool.cond_true_right, Bool.cond_false_right, Bool.cond_true_left, Bool.cond_false_left, ne_eq, Decidable.not_not, bne_iff_ne, beq_iff_eq, beq_eq_false_iff_ne, Bool.not_true, Bool.not_false] at hc2
            have hcs : cutI N tree arc (cutR N tree arc r) (q + 1) = ((cutI N tree arc (cutR N tree arc r) q).set (el N.acts (el tree (q : Int))).fr.toNat true).set (el N.acts (el tree (q : Int))).tt.toNat true := by
              show cutS N tree arc q _ = _
              unfold cutS
              rw [if_pos ⟨by assumption, by first | exact .inl (by assumption) | exact .inr (by assumption)⟩]
            refine rgD 8 (fun w_ => Out bm (bm + 1) w30 w_) (fun i => Nat.beq i 7) mixed (by kernel_rfl) ?_
            intro w50 ho51 hs52
            refine ⟨ho51.wide (.inl (Nat.le_refl _)), ?_⟩
            have hx53 := ho51.wide (a' := bm) (b' := (bm + 1)) (.inl (Nat.le_refl _))
            replace hm := hm.ext ho51
            refine tn rfl (fun _ hG => mvS rfl) ?_
            refine tn rfl (fun _ hG => y_fld fld62_1 rfl) ?_
            refine tn rfl (fun _ hG => y_lb (hb10.out hG (by first | omega | (simp only [blk_some, hi1_some] at *; omega))) na3 rfl rfl) ?_
            refine tn rfl (fun _ hG => mvS rfl) ?_
            refine tn rfl (fun _ hG => y_fld fld62_2 rfl) ?_
            refine tn rfl (fun _ hG => y_lb (hb10.out hG (by first | omega | (simp only [blk_some, hi1_some] at *; omega))) na3 rfl rfl) ?_
            refine tn rfl (fun _ hG => y_ix (shp bm N.evs.length _) sl68 rfl (by simp) rfl (ha.f0) (by simp; have := ha.f1; omega)) ?_
            refine td0 rfl (d_se (j := 0) (e' := true) hm sz4 rfl rfl rfl (ha.f0) (by have := ha.f1; omega) (Nat.le_of_ble_eq_true rfl) rfl ?_)
            intro w54 hs56 ho55 hm'
            have hrhm := hm.rng
            clear hm; have hm := hm'; clear hm'
            have hx57 : Out bm (bm + 1) w30 w54 := hx53.step ho55 (by first | omega | (simp only [blk_some, hi1_some] at *; omega))
            have hz58 := ho55.size
            refine ⟨hx57, ?_⟩
            refine t_end ?_
            have hz59 := hx57.size
            replace hN := hN.out hx57 (by first | omega | (simp only [blk_some, hi1_some] at *; omega))
            replace hT := hT.out hx57 (by first | omega | (simp only [blk_some, hi1_some] at *; omega))
            replace hE := hE.step hx57 (by first | omega | (simp only [blk_some, hi1_some] at *; omega))
            replace hb3 := hb3.out hx57 (by first | omega | (simp only [blk_some, hi1_some] at *; omega))
            replace hlp0 := hlp0.step hx57 (by first | omega | (simp only [blk_some, hi1_some] at *; omega))
            replace hlp1 := hlp1.step hx57 (by first | omega | (simp only [blk_some, hi1_some] at *; omega))
            replace hb10 := hb10.out hx57 (by first | omega | (simp only [blk_some, hi1_some] at *; omega))
            refine st (y_ix hm.sl sl68 rfl (by simp; omega) rfl (ha.t0) (by simp; have := ha.t1; omega)) ?_
            refine sd0 (d_se (j := 0) (e' := true) hm sz4 rfl rfl rfl (ha.t0) (by simp; have := ha.t1; omega) (Nat.le_of_ble_eq_true rfl) rfl ?_)
            intro w60 hs62 ho61 hm'
            have hrhm := hm.rng
            clear hm; have hm := hm'; clear hm'
            have hz63 := ho61.size
            replace hN := hN.out ho61 (by first | omega | (simp only [blk_some, hi1_some] at *; omega))
            replace hT := hT.out ho61 (by first | omega | (simp only [blk_some, hi1_some] at *; omega))
            replace hE := hE.step ho61 (by first | omega | (simp only [blk_some, hi1_some] at *; omega))
            replace hb3 := hb3.out ho61 (by first | omega | (simp only [blk_some, hi1_some] at *; omega))
            replace hlp0 := hlp0.step ho61 (by first | omega | (simp only [blk_some, hi1_some] at *; omega))
            replace hlp1 := hlp1.step ho61 (by first | omega | (simp only [blk_some, hi1_some] at *; omega))
            replace hb10 := hb10.out ho61 (by first | omega | (simp only [blk_some, hi1_some] at *; omega))
            refine rg_end ?_
            refine n_blk ?_
            refine n_then ?_
            refine rg ?_
            refine st (mvI rfl) ?_
            refine st (y_add rfl rfl (by omega)) ?_
            refine st (asI rfl) ?_
            refine rg_end ?_
            exact n_then ⟨q + 1, _, rfl, same_lk rfl (same_h0), ⟨rfl, trivial⟩, ⟨hlp1, by omega, by rw [hcs]; exact hm⟩, by first | omega | (dsimp only; omega)⟩
          ·
            try simp only [decide_eq_true_eq, decide_eq_false_iff_not, Bool.not_eq_true', Bool.not_eq_false', Bool.and_eq_true, Bool.or_eq_true, Bool.or_eq_false_iff, Bool.cond_true_right, Bool.cond_false_right, Bool.cond_true_left, Bool.cond_false_left, ne_eq, Decidable.not_not, bne_iff_ne, beq_iff_eq, beq_eq_false_iff_ne, Bool.not_true, Bool.not_false] at hc2
            have hcs : cutI N tree arc (cutR N tree arc r) (q + 1) = cutI N tree arc (cutR N tree arc r) q := by
              show cutS N tree arc q _ = _
              unfold cutS
              rw [if_neg (fun h => by
                first
                | exact absurd (show el tree (q : Int) = arc by assumption) h.1
                | (rcases h.2 with h2 | h2
                   · exact absurd h2 (by rw [show el (cutI N tree arc (cutR N tree arc r) q) (el N.acts (el tree (q : Int))).fr = false by assumption]; decide)
                   · exact absurd h2 (by rw [show el (cutI N tree arc (cutR N tree arc r) q) (el N.acts (el tree (q : Int))).tt = false by assumption]; decide)))]
            refine wp_skip ?_
            refine n_blk ?_
            refine n_then ?_
            refine rg ?_
            refine st (mvI rfl) ?_
            refine st (y_add rfl rfl (by omega)) ?_
            refine st (asI rfl) ?_
            refine rg_end ?_
            exact n_then ⟨q + 1, _, rfl, same_lk rfl (same_h0), ⟨rfl, trivial⟩, ⟨hlp1, by omega, by rw [hcs]; exact hm⟩, by first | omega | (dsimp only; omega)⟩
      ·
        have hg34n := hg34; try simp only [decide_eq_true_eq, decide_eq_false_iff_not, Bool.not_eq_true', Bool.not_eq_false', Bool.and_eq_true, Bool.or_eq_true, Bool.or_eq_false_iff, Bool.cond_true_right, Bool.cond_false_right, Bool.cond_true_left, Bool.cond_false_left, ne_eq, Decidable.not_not, bne_iff_ne, beq_iff_eq, beq_eq_false_iff_ne, Bool.not_true, Bool.not_false] at hg34n
        refine sts rfl rfl hg34 ?_
        refine sts rfl rfl hg34 ?_
        refine sts rfl rfl hg34 ?_
        refine sts rfl rfl hg34 ?_
        refine sts rfl rfl hg34 ?_
        refine sts rfl rfl hg34 ?_
        refine stu rfl rfl ?_
        refine stu rfl rfl ?_
        refine stu rfl rfl ?_
        refine stu rfl rfl ?_
        refine stu rfl rfl ?_
        refine sts rfl rfl hg34 ?_
        refine st (y_pickF rfl hg34 (v := .bool _) rfl) ?_
        refine rg_end ?_
        refine n_then ?_
        refine cnd rfl (fun hc2 => absurd hc2 (by decide)) (fun hc2 => ?_)
        have hcs : cutI N tree arc (cutR N tree arc r) (q + 1) = cutI N tree arc (cutR N tree arc r) q := by
          show cutS N tree arc q _ = _
          unfold cutS
          rw [if_neg (fun h => by
            first
            | exact absurd (show el tree (q : Int) = arc by assumption) h.1
            | (rcases h.2 with h2 | h2
               · exact absurd h2 (by rw [show el (cutI N tree arc (cutR N tree arc r) q) (el N.acts (el tree (q : Int))).fr = false by assumption]; decide)
               · exact absurd h2 (by rw [show el (cutI N tree arc (cutR N tree arc r) q) (el N.acts (el tree (q : Int))).tt = false by assumption]; decide)))]
        refine wp_skip ?_
        refine n_blk ?_
        refine n_then ?_
        refine rg ?_
        refine st (mvI rfl) ?_
        refine st (y_add rfl rfl (by omega)) ?_
        refine st (asI rfl) ?_
        refine rg_end ?_
        exact n_then ⟨q + 1, _, rfl, same_lk rfl (same_h0), ⟨rfl, trivial⟩, ⟨hlp1, by omega, by rw [hcs]; exact hm⟩, by first | omega | (dsimp only; omega)⟩
    ·
      try simp only [decide_eq_true_eq, decide_eq_false_iff_not, Bool.not_eq_true', Bool.not_eq_false', Bool.and_eq_true, Bool.or_eq_true, Bool.or_eq_false_iff, Bool.cond_true_right, Bool.cond_false_right, Bool.cond_true_left, Bool.cond_false_left, ne_eq, Decidable.not_not, bne_iff_ne, beq_iff_eq, beq_eq_false_iff_ne, Bool.not_true, Bool.not_false] at hc1
      have hqe : q = tree.length := by omega
      subst hqe
      refine wp_exit ?_
      refine e_then (e_then (e_blk (?_)))
      refine n_blk ?_
      refine n_then ?_
      refine rg ?_
      refine st (mvI rfl) ?_
      refine st (y_add rfl rfl (by omega)) ?_
      refine st (asI rfl) ?_
      refine rg_end ?_
      exact n_then ⟨r + 1, _, rfl, same_lk rfl (same_hav rfl (same_lk rfl (same_h0))), ⟨rfl, trivial⟩, ⟨hlp0, by omega, hm⟩, by first | omega | (dsimp only; omega)⟩
  ·
    try simp only [decide_eq_true_eq, decide_eq_false_iff_not, Bool.not_eq_true', Bool.not_eq_false', Bool.and_eq_true, Bool.or_eq_true, Bool.or_eq_false_iff, Bool.cond_true_right, Bool.cond_false_right, Bool.cond_true_left, Bool.cond_false_left, ne_eq, Decidable.not_not, bne_iff_ne, beq_iff_eq, beq_eq_false_iff_ne, Bool.not_true, Bool.not_false] at hc0
    refine wp_exit ?_
    refine e_then (e_then (e_blk (?_)))
    refine n_then ?_
    refine wp_seq ?_
    refine rg ?_
    refine st (mvS rfl) ?_
    refine st (asS rfl) ?_
    refine rg_end ?_
    refine n_then ?_
    refine wp_ret ?_
    refine ret1 (v := (.slice _ _ _)) Try.results68 rfl ?_
    have hre : r = N.evs.length := by omega
    subst hre
    exact ⟨_, _, rfl, Sl.wide hm.sl (by omega) (by omega), cutR_len _, hE⟩
end Go.Proofs.Ytdbiapbdmmkfjaa
