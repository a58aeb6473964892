/-
  Walks of the functions, printed by a program out of the code and the loops' relations.
-/
import Derived.Test.YtgekfafangcggaaWkG
import Derived.Test.YtgekfafangcggaaProg
import Derived.KernelRfl
import Derived.Test.YtgekfafangcggaaS2
import Derived.Test.YtgekfafangcggaaMv
namespace Go.Proofs.Ytgekfafangcggaa
open Go.Wk Go.RowKit
set_option linter.unusedVariables false
set_option linter.unusedSimpArgs false
theorem cl22 : Callable Try.prog 22 := ⟨Try.call22⟩
theorem cl67 : Callable Try.prog 67 := ⟨Try.call67⟩
theorem cl68 : Callable Try.prog 68 := ⟨Try.call68⟩

theorem shp (b m : Nat) (x : World) : Sl (fun _ : Unit => ([] : List Value)) 1 b (b + 1) x (some ⟨b, 0, none⟩) (List.replicate m ()) := ⟨fun _ => ⟨⟨b, 0, rfl⟩, Nat.le_refl _, Nat.lt_succ_self _⟩, fun i x hx j y hy => by simp at hy⟩
def cutS (N : Net) (tree : List Int) (arc : Int) (q : Nat) (m : List Bool) : List Bool :=
  if el tree (q : Int) ≠ arc ∧ (el m (el N.acts (el tree (q : Int))).fr = true ∨ el m (el N.acts (el tree (q : Int))).tt = true) then (m.set (el N.acts (el tree (q : Int))).fr.toNat true).set (el N.acts (el tree (q : Int))).tt.toNat true else m
def cutI (N : Net) (tree : List Int) (arc : Int) (m : List Bool) : Nat → List Bool
  | 0 => m
  | q + 1 => cutS N tree arc q (cutI N tree arc m q)
def cutR (N : Net) (tree : List Int) (arc : Int) : Nat → List Bool
  | 0 => (List.replicate N.evs.length false).set (el N.acts arc).tt.toNat true
  | r + 1 => cutI N tree arc (cutR N tree arc r) tree.length
def cutL (N : Net) (tree : List Int) (arc : Int) : List Bool := cutR N tree arc N.evs.length
theorem cutI_len {N : Net} {tree : List Int} {arc : Int} {m : List Bool} : ∀ q : Nat, (cutI N tree arc m q).length = m.length
  | 0 => rfl
  | q + 1 => by unfold cutI cutS; split <;> simp [cutI_len q]
theorem cutR_len {N : Net} {tree : List Int} {arc : Int} : ∀ r : Nat, (cutR N tree arc r).length = N.evs.length
  | 0 => by simp [cutR]
  | r + 1 => by unfold cutR; rw [cutI_len, cutR_len r]

set_option maxRecDepth 100000 in
theorem ref13_in_ok (n lo hi : Int) (w : World) : Cal Try.prog 69 [.int .i64 n, .int .i64 lo, .int .i64 hi] w (fun v w' => v = .bool (decide (lo ≤ n ∧ n ≤ hi)) ∧ Ext w w') := by
  have hE : Out 0 0 w w := Out.refl _ _ w
  refine enter Try.func69 rfl Try.ntmps69 rfl ?_
  refine wp_seq ?_
  refine rg ?_
  refine st (asB rfl) ?_
  refine rg_end ?_
  refine n_then ?_
  refine wp_seq ?_
  refine rg ?_
  refine st (mvI rfl) ?_
  refine st (mvI rfl) ?_
  refine st (y_geq rfl rfl) ?_
  refine st (mvB rfl) ?_
  refine gspL 10 rfl (fun hg1 => ?_) (fun hg1 => ?_)
  ·
    have hg1n := hg1; try simp only [decide_eq_true_eq, decide_eq_false_iff_not, Bool.not_eq_true', Bool.not_eq_false', Bool.and_eq_true, Bool.or_eq_true, Bool.or_eq_false_iff, Bool.cond_true_right, Bool.cond_false_right, Bool.cond_true_left, Bool.cond_false_left, ne_eq, Decidable.not_not, bne_iff_ne, beq_iff_eq, beq_eq_false_iff_ne, Bool.not_true, Bool.not_false] at hg1n
    refine stg rfl rfl hg1 (mvI rfl) ?_
    refine stg rfl rfl hg1 (mvI rfl) ?_
    refine stg rfl rfl hg1 (y_leq rfl rfl) ?_
    refine st (y_pickT rfl hg1 (v := .bool _) rfl) ?_
    refine st (asB rfl) ?_
    refine rg_end ?_
    refine n_then ?_
    refine wp_ret ?_
    refine ret1 (v := (.bool _)) Try.results69 rfl ?_
    exact ⟨vb (by simp only [decide_eq_true_eq, decide_eq_false_iff_not, Bool.not_eq_true', Bool.not_eq_eq_eq_not, Bool.not_true, Bool.false_eq_true, false_iff, true_iff, iff_true, iff_false]; omega), hE⟩
  ·
    have hg1n := hg1; try simp only [decide_eq_true_eq, decide_eq_false_iff_not, Bool.not_eq_true', Bool.not_eq_false', Bool.and_eq_true, Bool.or_eq_true, Bool.or_eq_false_iff, Bool.cond_true_right, Bool.cond_false_right, Bool.cond_true_left, Bool.cond_false_left, ne_eq, Decidable.not_not, bne_iff_ne, beq_iff_eq, beq_eq_false_iff_ne, Bool.not_true, Bool.not_false] at hg1n
    refine sts rfl rfl hg1 ?_
    refine sts rfl rfl hg1 ?_
    refine sts rfl rfl hg1 ?_
    refine st (y_pickF rfl hg1 (v := .bool _) rfl) ?_
    refine st (asB rfl) ?_
    refine rg_end ?_
    refine n_then ?_
    refine wp_ret ?_
    refine ret1 (v := (.bool _)) Try.results69 rfl ?_
    exact ⟨vb (by simp only [decide_eq_true_eq, decide_eq_false_iff_not, Bool.not_eq_true', Bool.not_eq_eq_eq_not, Bool.not_true, Bool.false_eq_true, false_iff, true_iff, iff_true, iff_false]; omega), hE⟩

set_option maxRecDepth 100000 in
theorem ref13_has_ok (l : List Int) (al : Option Addr) (cl ll hl : Nat) (x : Int) (w : World) (hL : Ints ll hl w al l) (hn : (l.length : Int) ≤ 9223372036854775807) : Cal Try.prog 67 [.slice al l.length cl, .int .i64 x] w (fun v w' => v = .bool (decide (x ∈ l)) ∧ Ext w w') := by
  replace hL := Ints.full hL
  have hE : Out 0 0 w w := Out.refl _ _ w
  refine enter Try.func67 rfl Try.ntmps67 rfl ?_
  refine wp_seq ?_
  refine rg ?_
  refine st (asB rfl) ?_
  refine rg_end ?_
  refine n_then ?_
  refine wp_seq ?_
  refine wp_seq ?_
  refine rg ?_
  refine st (asI rfl) ?_
  refine rg_end ?_
  refine n_then ?_
  refine wp_block ?_
  refine lp (γ := Nat) [4, 5, 6, 7, 8, 9, 10, 11, 12, 13, 14, 15, 16, 17] (fun k => [(5, .int .i64 (k : Int))]) (fun k w_ => Ext w w_ ∧ (k : Int) ≤ l.length ∧ ∀ q : Nat, q < k → el l (q : Int) ≠ x) (fun k => l.length - k) 0 ⟨rfl, trivial⟩ ⟨Out.refl _ _ _, by omega, fun q hq => by omega⟩ ?_
  rintro k hav_ w1 ⟨ho2, hk, hall⟩
  have hlp0 := ho2
  have hz3 := ho2.size
  replace hL := hL.ext ho2
  replace hE := hE.step ho2 (.inl (Nat.le_refl _))
  refine wp_seq ?_
  refine wp_seq ?_
  refine rg ?_
  refine st (mvI rfl) ?_
  refine st (mvS rfl) ?_
  refine st (y_len Try.underlying22 rfl) ?_
  refine st (y_lss rfl rfl) ?_
  refine rg_end ?_
  refine n_then ?_
  refine cnd rfl (fun hc0 => ?_) (fun hc0 => ?_)
  ·
    try simp only [decide_eq_true_eq, decide_eq_false_iff_not, Bool.not_eq_true', Bool.not_eq_false', Bool.and_eq_true, Bool.or_eq_true, Bool.or_eq_false_iff, Bool.cond_true_right, Bool.cond_false_right, Bool.cond_true_left, Bool.cond_false_left, ne_eq, Decidable.not_not, bne_iff_ne, beq_iff_eq, beq_eq_false_iff_ne, Bool.not_true, Bool.not_false] at hc0
    refine wp_skip ?_
    refine n_then ?_
    refine wp_seq ?_
    refine wp_block ?_
    refine wp_seq ?_
    refine rg ?_
    refine st (mvS rfl) ?_
    refine st (mvI rfl) ?_
    refine st (y_ix hL sl22 rfl (rfl) rfl (by omega) (by omega)) ?_
    refine st (y_le hL na3 rfl (by omega) (by omega) rfl) ?_
    refine st (mvI rfl) ?_
    refine st (y_eql rfl rfl) ?_
    refine rg_end ?_
    refine n_then ?_
    refine cnd rfl (fun hc1 => ?_) (fun hc1 => ?_)
    ·
      try simp only [decide_eq_true_eq, decide_eq_false_iff_not, Bool.not_eq_true', Bool.not_eq_false', Bool.and_eq_true, Bool.or_eq_true, Bool.or_eq_false_iff, Bool.cond_true_right, Bool.cond_false_right, Bool.cond_true_left, Bool.cond_false_left, ne_eq, Decidable.not_not, bne_iff_ne, beq_iff_eq, beq_eq_false_iff_ne, Bool.not_true, Bool.not_false] at hc1
      have hin : x ∈ l := hc1 ▸ el_mem (by omega) (by omega)
      refine wp_seq ?_
      refine rg ?_
      refine st (asB rfl) ?_
      refine rg_end ?_
      refine n_then ?_
      refine wp_ret ?_
      refine r_blk (r_then (r_then (r_blk (r_then (ret1 (v := (.bool _)) Try.results67 rfl ?_)))))
      exact ⟨vb (by simp [hin]), hE⟩
    ·
      try simp only [decide_eq_true_eq, decide_eq_false_iff_not, Bool.not_eq_true', Bool.not_eq_false', Bool.and_eq_true, Bool.or_eq_true, Bool.or_eq_false_iff, Bool.cond_true_right, Bool.cond_false_right, Bool.cond_true_left, Bool.cond_false_left, ne_eq, Decidable.not_not, bne_iff_ne, beq_iff_eq, beq_eq_false_iff_ne, Bool.not_true, Bool.not_false] at hc1
      have hall1 : ∀ q : Nat, q < k + 1 → el l (q : Int) ≠ x := fun q hq => by
        by_cases e : q = k
        · subst e; exact hc1
        · exact hall q (by omega)
      refine wp_skip ?_
      refine n_blk ?_
      refine n_then ?_
      refine rg ?_
      refine st (mvI rfl) ?_
      refine st (y_add rfl rfl (by omega)) ?_
      refine st (asI rfl) ?_
      refine rg_end ?_
      exact n_then ⟨k + 1, _, rfl, same_lk rfl (same_h0), ⟨rfl, trivial⟩, ⟨hlp0, by omega, hall1⟩, by first | omega | (dsimp only; omega)⟩
  ·
    try simp only [decide_eq_true_eq, decide_eq_false_iff_not, Bool.not_eq_true', Bool.not_eq_false', Bool.and_eq_true, Bool.or_eq_true, Bool.or_eq_false_iff, Bool.cond_true_right, Bool.cond_false_right, Bool.cond_true_left, Bool.cond_false_left, ne_eq, Decidable.not_not, bne_iff_ne, beq_iff_eq, beq_eq_false_iff_ne, Bool.not_true, Bool.not_false] at hc0
    have hni : ¬ x ∈ l := fun h => by
      obtain ⟨i, hi, e⟩ := List.getElem_of_mem h
      exact hall i (by omega) (by simpa [el, hi] using e)
    refine wp_exit ?_
    refine e_then (e_then (e_blk (?_)))
    refine n_then ?_
    refine wp_seq ?_
    refine rg ?_
    refine st (asB rfl) ?_
    refine rg_end ?_
    refine n_then ?_
    refine wp_ret ?_
    refine ret1 (v := (.bool _)) Try.results67 rfl ?_
    exact ⟨vb (by simp [hni]), hE⟩

set_option maxHeartbeats 2000000 in
set_option maxRecDepth 100000 in
theorem ref13_cut_ok (N : Net) (A : NetA) (lo hi : Nat) (tree : List Int) (at_ : Option Addr) (ct lt ht : Nat) (arc : Int) (w : World) (hN : NetIn lo hi w N A) (hT : Ints lt ht w at_ tree) (htn : (tree.length : Int) ≤ 9223372036854775807) (hok : NetOk N) (htm : ∀ a ∈ tree, 0 ≤ a ∧ a < N.acts.length) (a0 : 0 ≤ arc) (a1 : arc < N.acts.length) : Cal Try.prog 68 [netV N A, .slice at_ tree.length ct, .int .i64 arc] w (fun v w' => ∃ ad c, v = .slice ad N.evs.length c ∧ Sl encB 1 w.heap.size w'.heap.size w' ad (cutL N tree arc) ∧ (cutL N tree arc).length = N.evs.length ∧ Ext w w') := by
  replace hN := hN.full
  replace hT := Ints.full hT
  have hev := hok.ev
  have hac := hok.ac
  have haa := hok.acs _ (el_mem a0 a1)
  have hE : Out 0 0 w w := Out.refl _ _ w
  refine enter Try.func68 rfl Try.ntmps68 rfl ?_
  refine wp_seq ?_
  refine rg ?_
  refine sd (d_boxA rfl ?_)
  intro b3 w1 hbb3 hs3 ho2 hb3
  have hz4 := ho2.size
  replace hN := hN.ext ho2
  replace hT := hT.ext ho2
  replace hE := hE.step ho2 (.inl (Nat.le_refl _))
  refine st (asS rfl) ?_
  refine rg_end ?_
  refine n_then ?_
  refine wp_seq ?_
  refine rg ?_
  refine st (y_fld fld26_1 rfl) ?_
  refine st (y_lb hb3 na23 rfl rfl) ?_
  refine st (y_len Try.underlying23 rfl) ?_
  refine sd (d_make (m := N.evs.length) (lo := w1.heap.size) (enc := encB) (e0 := false) sl31 info4 (fun _ => rfl) rfl rfl rfl (by omega) (by unfold maxLen; omega) (by omega) ?_)
  intro bm w5 hbbm hs7 ho6 hm
  have hz9 := ho6.size
  replace hN := hN.ext ho6
  replace hT := hT.ext ho6
  replace hE := hE.step ho6 (.inl (Nat.le_refl _))
  replace hb3 := hb3.ext ho6
  refine st (asS rfl) ?_
  refine rg_end ?_
  refine n_then ?_
  refine wp_seq ?_
  refine rg ?_
  refine st (mvS rfl) ?_
  refine st (y_fld fld26_2 rfl) ?_
  refine st (y_lb hb3 na24 rfl rfl) ?_
  refine st (mvI rfl) ?_
  refine st (y_ix hN.a sl24 rfl (rfl) rfl (a0) (a1)) ?_
  refine st (y_fld fld36_2 rfl) ?_
  refine st (y_lf hN.a na3 rfl (a0) (a1) rfl) ?_
  refine st (y_ix hm.sl sl31 rfl (by simp) rfl (haa.t0) (by simp; have := haa.t1; omega)) ?_
  refine sd0 (d_se (j := 0) (e' := true) hm sz4 rfl rfl rfl (haa.t0) (by simp; have := haa.t1; omega) (Nat.le_of_ble_eq_true rfl) rfl ?_)
  intro w10 hs12 ho11 hm'
  have hrhm := hm.rng
  clear hm; have hm := hm'; clear hm'
  have hz13 := ho11.size
  replace hN := hN.out ho11 (by first | omega | (simp only [blk_some, hi1_some] at *; omega))
  replace hT := hT.out ho11 (by first | omega | (simp only [blk_some, hi1_some] at *; omega))
  replace hE := hE.step ho11 (by first | omega | (simp only [blk_some, hi1_some] at *; omega))
  replace hb3 := hb3.out ho11 (by first | omega | (simp only [blk_some, hi1_some] at *; omega))
  refine rg_end ?_
  refine n_then ?_
  refine wp_seq ?_
  refine wp_seq ?_
  refine rg ?_
  refine st (asI rfl) ?_
  refine rg_end ?_
  refine n_then ?_
  refine wp_block ?_
  refine lp (γ := Nat) [8, 9, 10, 23, 24, 25, 26, 27, 28, 29, 30, 31, 32, 33, 34, 35, 36, 37, 38, 39, 40, 41, 42, 43, 44, 45, 46, 47, 48, 49, 50, 51, 52, 53, 54, 55, 56, 57, 58, 59, 60, 61, 62, 63, 64, 65, 66, 67, 68, 69, 70] (fun r => [(8, .int .i64 (r : Int))]) (fun r w_ => Out bm (bm + 1) w10 w_ ∧ (r : Int) ≤ N.evs.length ∧ Ow 4 encB 1 bm (bm + 1) w_ (some ⟨bm, 0, none⟩) N.evs.length  (cutR N tree arc r)) (fun r => N.evs.length - r) 0 ⟨rfl, trivial⟩ ⟨Out.refl _ _ _, by omega, hm.lower (by omega)⟩ ?_
  rintro r hav_ w14 ⟨ho15, hr_, hm⟩
  have hlp0 := ho15
  have hz16 := ho15.size
  replace hN := hN.out ho15 (by first | omega | (simp only [blk_some, hi1_some] at *; omega))
  replace hT := hT.out ho15 (by first | omega | (simp only [blk_some, hi1_some] at *; omega))
  replace hE := hE.step ho15 (by first | omega | (simp only [blk_some, hi1_some] at *; omega))
  replace hb3 := hb3.out ho15 (by first | omega | (simp only [blk_some, hi1_some] at *; omega))
  refine wp_seq ?_
  refine wp_seq ?_
  refine rg ?_
  refine st (mvI rfl) ?_
  refine st (mvS rfl) ?_
  refine st (y_len Try.underlying31 rfl) ?_
  refine st (y_lss rfl rfl) ?_
  refine rg_end ?_
  refine n_then ?_
  refine cnd rfl (fun hc0 => ?_) (fun hc0 => ?_)
  ·
    try simp only [decide_eq_true_eq, decide_eq_false_iff_not, Bool.not_eq_true', Bool.not_eq_false', Bool.and_eq_true, Bool.or_eq_true, Bool.or_eq_false_iff, Bool.cond_true_right, Bool.cond_false_right, Bool.cond_true_left, Bool.cond_false_left, ne_eq, Decidable.not_not, bne_iff_ne, beq_iff_eq, beq_eq_false_iff_ne, Bool.not_true, Bool.not_false] at hc0
    refine wp_skip ?_
    refine n_then ?_
    refine wp_seq ?_
    refine wp_block ?_
    refine wp_seq ?_
    refine rg ?_
    refine st (asI rfl) ?_
    refine rg_end ?_
    refine n_then ?_
    refine wp_block ?_
    refine lp (γ := Nat) [9, 10, 29, 30, 31, 32, 33, 34, 35, 36, 37, 38, 39, 40, 41, 42, 43, 44, 45, 46, 47, 48, 49, 50, 51, 52, 53, 54, 55, 56, 57, 58, 59, 60, 61, 62, 63, 64, 65, 66, 67, 68, 69, 70] (fun q => [(9, .int .i64 (q : Int))]) (fun q w_ => Out bm (bm + 1) w14 w_ ∧ (q : Int) ≤ tree.length ∧ Ow 4 encB 1 bm (bm + 1) w_ (some ⟨bm, 0, none⟩) N.evs.length  (cutI N tree arc (cutR N tree arc r) q)) (fun q => tree.length - q) 0 ⟨rfl, trivial⟩ ⟨Out.refl _ _ _, by omega, hm⟩ ?_
    rintro q hav_ w17 ⟨ho18, hq_, hm⟩
    have hlp1 := ho18
    have hz19 := ho18.size
    replace hN := hN.out ho18 (by first | omega | (simp only [blk_some, hi1_some] at *; omega))
    replace hT := hT.out ho18 (by first | omega | (simp only [blk_some, hi1_some] at *; omega))
    replace hE := hE.step ho18 (by first | omega | (simp only [blk_some, hi1_some] at *; omega))
    replace hb3 := hb3.out ho18 (by first | omega | (simp only [blk_some, hi1_some] at *; omega))
    replace hlp0 := hlp0.step ho18 (by first | omega | (simp only [blk_some, hi1_some] at *; omega))
    refine wp_seq ?_
    refine wp_seq ?_
    refine rg ?_
    refine st (mvI rfl) ?_
    refine st (mvS rfl) ?_
    refine st (y_len Try.underlying22 rfl) ?_
    refine st (y_lss rfl rfl) ?_
    refine rg_end ?_
    refine n_then ?_
    refine cnd rfl (fun hc1 => ?_) (fun hc1 => ?_)
    ·
      try simp only [decide_eq_true_eq, decide_eq_false_iff_not, Bool.not_eq_true', Bool.not_eq_false', Bool.and_eq_true, Bool.or_eq_true, Bool.or_eq_false_iff, Bool.cond_true_right, Bool.cond_false_right, Bool.cond_true_left, Bool.cond_false_left, ne_eq, Decidable.not_not, bne_iff_ne, beq_iff_eq, beq_eq_false_iff_ne, Bool.not_true, Bool.not_false] at hc1
      have htq := htm _ (el_mem (l := tree) (i := (q : Int)) (by omega) hc1)
      have ha := hok.acs _ (el_mem htq.1 htq.2)
      have hml : (cutI N tree arc (cutR N tree arc r) q).length = N.evs.length := by rw [cutI_len, cutR_len]
      refine wp_skip ?_
      refine n_then ?_
      refine wp_seq ?_
      refine wp_block ?_
      refine wp_seq ?_
      refine rgD 9 (fun w_ => Ext w17 w_) (fun i => Nat.beq i 8) mixed (by kernel_rfl) ?_
      intro w20 ho21 hs22
      refine ⟨ho21, ?_⟩
      have hx23 := ho21
      refine tn rfl (fun _ hG => y_fld fld26_2 rfl) ?_
      refine tn rfl (fun _ hG => y_lb (hb3.ext hG) na24 rfl rfl) ?_
      refine tn rfl (fun _ hG => mvS rfl) ?_
      refine tn rfl (fun _ hG => mvI rfl) ?_
      refine tn rfl (fun _ hG => y_ix (hT.ext hG) sl22 rfl (rfl) rfl (by omega) (by omega)) ?_
      refine tn rfl (fun _ hG => y_le (hT.ext hG) na3 rfl (by omega) (by omega) rfl) ?_
      refine tn rfl (fun _ hG => y_ix (hN.a.ext hG) sl24 rfl (rfl) rfl (by omega) (by omega)) ?_
      refine tn rfl (fun _ hG => y_lw (hN.a.ext hG) agg36 rfl (by omega) (by omega)) ?_
      refine td rfl (d_allocA zer36 ?_)
      intro b10 w24 hbb10 hs26 ho25 hb10
      have hx27 := hx23.step ho25 (.inl (Nat.le_refl _))
      have hz28 := ho25.size
      refine ⟨hx27, ?_⟩
      refine t_end ?_
      have hz29 := hx27.size
      replace hN := hN.ext hx27
      replace hT := hT.ext hx27
      replace hE := hE.step hx27 (.inl (Nat.le_refl _))
      replace hb3 := hb3.ext hx27
      replace hlp0 := hlp0.step hx27 (.inl (Nat.le_refl _))
      replace hm := hm.ext hx27
      replace hlp1 := hlp1.step hx27 (.inl (Nat.le_refl _))
      refine sd0 (d_stN hb10 rfl rfl sz36 rfl rfl ?_)
      intro w30 hs32 ho31 hb10'
      clear hb10; have hb10 := hb10'; clear hb10'
      have hz33 := ho31.size
      replace hN := hN.out ho31 (by first | omega | (simp only [blk_some, hi1_some] at *; omega))
      replace hT := hT.out ho31 (by first | omega | (simp only [blk_some, hi1_some] at *; omega))
      replace hE := hE.step ho31 (by first | omega | (simp only [blk_some, hi1_some] at *; omega))
      replace hb3 := hb3.out ho31 (by first | omega | (simp only [blk_some, hi1_some] at *; omega))
      replace hlp0 := hlp0.step ho31 (by first | omega | (simp only [blk_some, hi1_some] at *; omega))
      have hrnhm := hm.rng
      replace hm := hm.out ho31 (by first | omega | (simp only [blk_some, hi1_some] at *; omega))
      replace hlp1 := hlp1.step ho31 (by first | omega | (simp only [blk_some, hi1_some] at *; omega))
      refine rg_end ?_
      refine n_then ?_
      refine wp_seq ?_
      refine rg ?_
      refine st (mvS rfl) ?_
      refine st (mvI rfl) ?_
      refine st (y_ix hT sl22 rfl (rfl) rfl (by omega) (by omega)) ?_
      refine st (y_le hT na3 rfl (by omega) (by omega) rfl) ?_
      refine st (mvI rfl) ?_
      refine st (y_neq rfl rfl) ?_
      refine st (mvB rfl) ?_
      refine gspL 49 rfl (fun hg34 => ?_) (fun hg34 => ?_)
      ·
        have hg34n := hg34; try simp only [decide_eq_true_eq, decide_eq_false_iff_not, Bool.not_eq_true', Bool.not_eq_false', Bool.and_eq_true, Bool.or_eq_true, Bool.or_eq_false_iff, Bool.cond_true_right, Bool.cond_false_right, Bool.cond_true_left, Bool.cond_false_left, ne_eq, Decidable.not_not, bne_iff_ne, beq_iff_eq, beq_eq_false_iff_ne, Bool.not_true, Bool.not_false] at hg34n
        refine stg rfl rfl hg34 (mvS rfl) ?_
        refine stg rfl rfl hg34 (y_fld fld36_1 rfl) ?_
        refine stg rfl rfl hg34 (y_lb hb10 na3 rfl rfl) ?_
        refine stg rfl rfl hg34 (y_ix hm.sl sl31 rfl ((by rw [cutI_len, cutR_len])) rfl (ha.f0) (by have := ha.f1; omega)) ?_
        refine stg rfl rfl hg34 (y_le hm.sl na4 rfl (ha.f0) (by have := ha.f1; omega) rfl) ?_
        refine stg rfl rfl hg34 (mvB rfl) ?_
        refine gspL 55 rfl (fun hg35 => ?_) (fun hg35 => ?_)
        ·
          have hg35n := hg35; try simp only [decide_eq_true_eq, decide_eq_false_iff_not, Bool.not_eq_true', Bool.not_eq_false', Bool.and_eq_true, Bool.or_eq_true, Bool.or_eq_false_iff, Bool.cond_true_right, Bool.cond_false_right, Bool.cond_true_left, Bool.cond_false_left, ne_eq, Decidable.not_not, bne_iff_ne, beq_iff_eq, beq_eq_false_iff_ne, Bool.not_true, Bool.not_false] at hg35n
          refine sts rfl rfl hg35 ?_
          refine sts rfl rfl hg35 ?_
          refine sts rfl rfl hg35 ?_
          refine sts rfl rfl hg35 ?_
          refine sts rfl rfl hg35 ?_
          refine stg rfl rfl hg34 (y_pickT rfl hg35 (v := .bool _) rfl) ?_
          refine st (y_pickT rfl hg34 (v := .bool _) rfl) ?_
          refine rg_end ?_
          refine n_then ?_
          refine cnd rfl (fun hc2 => ?_) (fun hc2 => absurd hc2 (by decide))
          have hcs : cutI N tree arc (cutR N tree arc r) (q + 1) = ((cutI N tree arc (cutR N tree arc r) q).set (el N.acts (el tree (q : Int))).fr.toNat true).set (el N.acts (el tree (q : Int))).tt.toNat true := by
            show cutS N tree arc q _ = _
            unfold cutS
            rw [if_pos ⟨by assumption, by first | exact .inl (by assumption) | exact .inr (by assumption)⟩]
          refine rgD 8 (fun w_ => Out bm (bm + 1) w30 w_) (fun i => Nat.beq i 7) mixed (by kernel_rfl) ?_
          intro w36 ho37 hs38
          refine ⟨ho37.wide (.inl (Nat.le_refl _)), ?_⟩
          have hx39 := ho37.wide (a' := bm) (b' := (bm + 1)) (.inl (Nat.le_refl _))
          replace hm := hm.ext ho37
          refine tn rfl (fun _ hG => mvS rfl) ?_
          refine tn rfl (fun _ hG => y_fld fld36_1 rfl) ?_
          refine tn rfl (fun _ hG => y_lb (hb10.out hG (by first | omega | (simp only [blk_some, hi1_some] at *; omega))) na3 rfl rfl) ?_
          refine tn rfl (fun _ hG => mvS rfl) ?_
          refine tn rfl (fun _ hG => y_fld fld36_2 rfl) ?_
          refine tn rfl (fun _ hG => y_lb (hb10.out hG (by first | omega | (simp only [blk_some, hi1_some] at *; omega))) na3 rfl rfl) ?_
          refine tn rfl (fun _ hG => y_ix (shp bm N.evs.length _) sl31 rfl (by simp) rfl (ha.f0) (by simp; have := ha.f1; omega)) ?_
          refine td0 rfl (d_se (j := 0) (e' := true) hm sz4 rfl rfl rfl (ha.f0) (by have := ha.f1; omega) (Nat.le_of_ble_eq_true rfl) rfl ?_)
          intro w40 hs42 ho41 hm'
          have hrhm := hm.rng
          clear hm; have hm := hm'; clear hm'
          have hx43 : Out bm (bm + 1) w30 w40 := hx39.step ho41 (by first | omega | (simp only [blk_some, hi1_some] at *; omega))
          have hz44 := ho41.size
          refine ⟨hx43, ?_⟩
          refine t_end ?_
          have hz45 := hx43.size
          replace hN := hN.out hx43 (by first | omega | (simp only [blk_some, hi1_some] at *; omega))
          replace hT := hT.out hx43 (by first | omega | (simp only [blk_some, hi1_some] at *; omega))
          replace hE := hE.step hx43 (by first | omega | (simp only [blk_some, hi1_some] at *; omega))
          replace hb3 := hb3.out hx43 (by first | omega | (simp only [blk_some, hi1_some] at *; omega))
          replace hlp0 := hlp0.step hx43 (by first | omega | (simp only [blk_some, hi1_some] at *; omega))
          replace hlp1 := hlp1.step hx43 (by first | omega | (simp only [blk_some, hi1_some] at *; omega))
          replace hb10 := hb10.out hx43 (by first | omega | (simp only [blk_some, hi1_some] at *; omega))
          refine st (y_ix hm.sl sl31 rfl (by simp; omega) rfl (ha.t0) (by simp; have := ha.t1; omega)) ?_
          refine sd0 (d_se (j := 0) (e' := true) hm sz4 rfl rfl rfl (ha.t0) (by simp; have := ha.t1; omega) (Nat.le_of_ble_eq_true rfl) rfl ?_)
          intro w46 hs48 ho47 hm'
          have hrhm := hm.rng
          clear hm; have hm := hm'; clear hm'
          have hz49 := ho47.size
          replace hN := hN.out ho47 (by first | omega | (simp only [blk_some, hi1_some] at *; omega))
          replace hT := hT.out ho47 (by first | omega | (simp only [blk_some, hi1_some] at *; omega))
          replace hE := hE.step ho47 (by first | omega | (simp only [blk_some, hi1_some] at *; omega))
          replace hb3 := hb3.out ho47 (by first | omega | (simp only [blk_some, hi1_some] at *; omega))
          replace hlp0 := hlp0.step ho47 (by first | omega | (simp only [blk_some, hi1_some] at *; omega))
          replace hlp1 := hlp1.step ho47 (by first | omega | (simp only [blk_some, hi1_some] at *; omega))
          replace hb10 := hb10.out ho47 (by first | omega | (simp only [blk_some, hi1_some] at *; omega))
          refine rg_end ?_
          refine n_blk ?_
          refine n_then ?_
          refine rg ?_
          refine st (mvI rfl) ?_
          refine st (y_add rfl rfl (by omega)) ?_
          refine st (asI rfl) ?_
          refine rg_end ?_
          exact n_then ⟨q + 1, _, rfl, same_lk rfl (same_h0), ⟨rfl, trivial⟩, ⟨hlp1, by omega, by rw [hcs]; exact hm⟩, by first | omega | (dsimp only; omega)⟩
        ·
          have hg35n := hg35; try simp only [decide_eq_true_eq, decide_eq_false_iff_not, Bool.not_eq_true', Bool.not_eq_false', Bool.and_eq_true, Bool.or_eq_true, Bool.or_eq_false_iff, Bool.cond_true_right, Bool.cond_false_right, Bool.cond_true_left, Bool.cond_false_left, ne_eq, Decidable.not_not, bne_iff_ne, beq_iff_eq, beq_eq_false_iff_ne, Bool.not_true, Bool.not_false] at hg35n
          refine stg rfl rfl hg35 (mvS rfl) ?_
          refine stg rfl rfl hg35 (y_fld fld36_2 rfl) ?_
          refine stg rfl rfl hg35 (y_lb hb10 na3 rfl rfl) ?_
          refine stg rfl rfl hg35 (y_ix hm.sl sl31 rfl ((by rw [cutI_len, cutR_len])) rfl (ha.t0) (by have := ha.t1; omega)) ?_
          refine stg rfl rfl hg35 (y_le hm.sl na4 rfl (ha.t0) (by have := ha.t1; omega) rfl) ?_
          refine stg rfl rfl hg34 (y_pickF rfl hg35 (v := .bool _) rfl) ?_
          refine st (y_pickT rfl hg34 (v := .bool _) rfl) ?_
          refine rg_end ?_
          refine n_then ?_
          refine cnd rfl (fun hc2 => ?_) (fun hc2 => ?_)
          ·
            try simp only [decide_eq_true_eq, decide_eq_false_iff_not, Bool.not_eq_true', Bool.not_eq_false', Bool.and_eq_true, Bool.or_eq_true, Bool.or_eq_false_iff, Bool.cond_true_right, Bool.cond_false_right, Bool.cond_true_left, Bool.cond_false_left, ne_eq, Decidable.not_not, bne_iff_ne, beq_iff_eq, beq_eq_false_iff_ne, Bool.not_true, Bool.not_false] at hc2
            have hcs : cutI N tree arc (cutR N tree arc r) (q + 1) = ((cutI N tree arc (cutR N tree arc r) q).set (el N.acts (el tree (q : Int))).fr.toNat true).set (el N.acts (el tree (q : Int))).tt.toNat true := by
              show cutS N tree arc q _ = _
              unfold cutS
              rw [if_pos ⟨by assumption, by first | exact .inl (by assumption) | exact .inr (by assumption)⟩]
            refine rgD 8 (fun w_ => Out bm (bm + 1) w30 w_) (fun i => Nat.beq i 7) mixed (by kernel_rfl) ?_
            intro w50 ho51 hs52
            refine ⟨ho51.wide (.inl (Nat.le_refl _)), ?_⟩
            have hx53 := ho51.wide (a' := bm) (b' := (bm + 1)) (.inl (Nat.le_refl _))
            replace hm := hm.ext ho51
            refine tn rfl (fun _ hG => mvS rfl) ?_
            refine tn rfl (fun _ hG => y_fld fld36_1 rfl) ?_
            refine tn rfl (fun _ hG => y_lb (hb10.out hG (by first | omega | (simp only [blk_some, hi1_some] at *; omega))) na3 rfl rfl) ?_
            refine tn rfl (fun _ hG => mvS rfl) ?_
            refine tn rfl (fun _ hG => y_fld fld36_2 rfl) ?_
            refine tn rfl (fun _ hG => y_lb (hb10.out hG (by first | omega | (simp only [blk_some, hi1_some] at *; omega))) na3 rfl rfl) ?_
            refine tn rfl (fun _ hG => y_ix (shp bm N.evs.length _) sl31 rfl (by simp) rfl (ha.f0) (by simp; have := ha.f1; omega)) ?_
            refine td0 rfl (d_se (j := 0) (e' := true) hm sz4 rfl rfl rfl (ha.f0) (by have := ha.f1; omega) (Nat.le_of_ble_eq_true rfl) rfl ?_)
            intro w54 hs56 ho55 hm'
            have hrhm := hm.rng
            clear hm; have hm := hm'; clear hm'
            have hx57 : Out bm (bm + 1) w30 w54 := hx53.step ho55 (by first | omega | (simp only [blk_some, hi1_some] at *; omega))
            have hz58 := ho55.size
            refine ⟨hx57, ?_⟩
            refine t_end ?_
            have hz59 := hx57.size
            replace hN := hN.out hx57 (by first | omega | (simp only [blk_some, hi1_some] at *; omega))
            replace hT := hT.out hx57 (by first | omega | (simp only [blk_some, hi1_some] at *; omega))
            replace hE := hE.step hx57 (by first | omega | (simp only [blk_some, hi1_some] at *; omega))
            replace hb3 := hb3.out hx57 (by first | omega | (simp only [blk_some, hi1_some] at *; omega))
            replace hlp0 := hlp0.step hx57 (by first | omega | (simp only [blk_some, hi1_some] at *; omega))
            replace hlp1 := hlp1.step hx57 (by first | omega | (simp only [blk_some, hi1_some] at *; omega))
            replace hb10 := hb10.out hx57 (by first | omega | (simp only [blk_some, hi1_some] at *; omega))
            refine st (y_ix hm.sl sl31 rfl (by simp; omega) rfl (ha.t0) (by simp; have := ha.t1; omega)) ?_
            refine sd0 (d_se (j := 0) (e' := true) hm sz4 rfl rfl rfl (ha.t0) (by simp; have := ha.t1; omega) (Nat.le_of_ble_eq_true rfl) rfl ?_)
            intro w60 hs62 ho61 hm'
            have hrhm := hm.rng
            clear hm; have hm := hm'; clear hm'
            have hz63 := ho61.size
            replace hN := hN.out ho61 (by first | omega | (simp only [blk_some, hi1_some] at *; omega))
            replace hT := hT.out ho61 (by first | omega | (simp only [blk_some, hi1_some] at *; omega))
            replace hE := hE.step ho61 (by first | omega | (simp only [blk_some, hi1_some] at *; omega))
            replace hb3 := hb3.out ho61 (by first | omega | (simp only [blk_some, hi1_some] at *; omega))
            replace hlp0 := hlp0.step ho61 (by first | omega | (simp only [blk_some, hi1_some] at *; omega))
            replace hlp1 := hlp1.step ho61 (by first | omega | (simp only [blk_some, hi1_some] at *; omega))
            replace hb10 := hb10.out ho61 (by first | omega | (simp only [blk_some, hi1_some] at *; omega))
            refine rg_end ?_
            refine n_blk ?_
            refine n_then ?_
            refine rg ?_
            refine st (mvI rfl) ?_
            refine st (y_add rfl rfl (by omega)) ?_
            refine st (asI rfl) ?_
            refine rg_end ?_
            exact n_then ⟨q + 1, _, rfl, same_lk rfl (same_h0), ⟨rfl, trivial⟩, ⟨hlp1, by omega, by rw [hcs]; exact hm⟩, by first | omega | (dsimp only; omega)⟩
          ·
            try simp only [decide_eq_true_eq, decide_eq_false_iff_not, Bool.not_eq_true', Bool.not_eq_false', Bool.and_eq_true, Bool.or_eq_true, Bool.or_eq_false_iff, Bool.cond_true_right, Bool.cond_false_right, Bool.cond_true_left, Bool.cond_false_left, ne_eq, Decidable.not_not, bne_iff_ne, beq_iff_eq, beq_eq_false_iff_ne, Bool.not_true, Bool.not_false] at hc2
            have hcs : cutI N tree arc (cutR N tree arc r) (q + 1) = cutI N tree arc (cutR N tree arc r) q := by
              show cutS N tree arc q _ = _
              unfold cutS
              rw [if_neg (fun h => by
                first
                | exact absurd (show el tree (q : Int) = arc by assumption) h.1
                | (rcases h.2 with h2 | h2
                   · exact absurd h2 (by rw [show el (cutI N tree arc (cutR N tree arc r) q) (el N.acts (el tree (q : Int))).fr = false by assumption]; decide)
                   · exact absurd h2 (by rw [show el (cutI N tree arc (cutR N tree arc r) q) (el N.acts (el tree (q : Int))).tt = false by assumption]; decide)))]
            refine wp_skip ?_
            refine n_blk ?_
            refine n_then ?_
            refine rg ?_
            refine st (mvI rfl) ?_
            refine st (y_add rfl rfl (by omega)) ?_
            refine st (asI rfl) ?_
            refine rg_end ?_
            exact n_then ⟨q + 1, _, rfl, same_lk rfl (same_h0), ⟨rfl, trivial⟩, ⟨hlp1, by omega, by rw [hcs]; exact hm⟩, by first | omega | (dsimp only; omega)⟩
      ·
        have hg34n := hg34; try simp only [decide_eq_true_eq, decide_eq_false_iff_not, Bool.not_eq_true', Bool.not_eq_false', Bool.and_eq_true, Bool.or_eq_true, Bool.or_eq_false_iff, Bool.cond_true_right, Bool.cond_false_right, Bool.cond_true_left, Bool.cond_false_left, ne_eq, Decidable.not_not, bne_iff_ne, beq_iff_eq, beq_eq_false_iff_ne, Bool.not_true, Bool.not_false] at hg34n
        refine sts rfl rfl hg34 ?_
        refine sts rfl rfl hg34 ?_
        refine sts rfl rfl hg34 ?_
        refine sts rfl rfl hg34 ?_
        refine sts rfl rfl hg34 ?_
        refine sts rfl rfl hg34 ?_
        refine stu rfl rfl ?_
        refine stu rfl rfl ?_
        refine stu rfl rfl ?_
        refine stu rfl rfl ?_
        refine stu rfl rfl ?_
        refine sts rfl rfl hg34 ?_
        refine st (y_pickF rfl hg34 (v := .bool _) rfl) ?_
        refine rg_end ?_
        refine n_then ?_
        refine cnd rfl (fun hc2 => absurd hc2 (by decide)) (fun hc2 => ?_)
        have hcs : cutI N tree arc (cutR N tree arc r) (q + 1) = cutI N tree arc (cutR N tree arc r) q := by
          show cutS N tree arc q _ = _
          unfold cutS
          rw [if_neg (fun h => by
            first
            | exact absurd (show el tree (q : Int) = arc by assumption) h.1
            | (rcases h.2 with h2 | h2
               · exact absurd h2 (by rw [show el (cutI N tree arc (cutR N tree arc r) q) (el N.acts (el tree (q : Int))).fr = false by assumption]; decide)
               · exact absurd h2 (by rw [show el (cutI N tree arc (cutR N tree arc r) q) (el N.acts (el tree (q : Int))).tt = false by assumption]; decide)))]
        refine wp_skip ?_
        refine n_blk ?_
        refine n_then ?_
        refine rg ?_
        refine st (mvI rfl) ?_
        refine st (y_add rfl rfl (by omega)) ?_
        refine st (asI rfl) ?_
        refine rg_end ?_
        exact n_then ⟨q + 1, _, rfl, same_lk rfl (same_h0), ⟨rfl, trivial⟩, ⟨hlp1, by omega, by rw [hcs]; exact hm⟩, by first | omega | (dsimp only; omega)⟩
    ·
      try simp only [decide_eq_true_eq, decide_eq_false_iff_not, Bool.not_eq_true', Bool.not_eq_false', Bool.and_eq_true, Bool.or_eq_true, Bool.or_eq_false_iff, Bool.cond_true_right, Bool.cond_false_right, Bool.cond_true_left, Bool.cond_false_left, ne_eq, Decidable.not_not, bne_iff_ne, beq_iff_eq, beq_eq_false_iff_ne, Bool.not_true, Bool.not_false] at hc1
      have hqe : q = tree.length := by omega
      subst hqe
      refine wp_exit ?_
      refine e_then (e_then (e_blk (?_)))
      refine n_blk ?_
      refine n_then ?_
      refine rg ?_
      refine st (mvI rfl) ?_
      refine st (y_add rfl rfl (by omega)) ?_
      refine st (asI rfl) ?_
      refine rg_end ?_
      exact n_then ⟨r + 1, _, rfl, same_lk rfl (same_hav rfl (same_lk rfl (same_h0))), ⟨rfl, trivial⟩, ⟨hlp0, by omega, hm⟩, by first | omega | (dsimp only; omega)⟩
  ·
    try simp only [decide_eq_true_eq, decide_eq_false_iff_not, Bool.not_eq_true', Bool.not_eq_false', Bool.and_eq_true, Bool.or_eq_true, Bool.or_eq_false_iff, Bool.cond_true_right, Bool.cond_false_right, Bool.cond_true_left, Bool.cond_false_left, ne_eq, Decidable.not_not, bne_iff_ne, beq_iff_eq, beq_eq_false_iff_ne, Bool.not_true, Bool.not_false] at hc0
    refine wp_exit ?_
    refine e_then (e_then (e_blk (?_)))
    refine n_then ?_
    refine wp_seq ?_
    refine rg ?_
    refine st (mvS rfl) ?_
    refine st (asS rfl) ?_
    refine rg_end ?_
    refine n_then ?_
    refine wp_ret ?_
    refine ret1 (v := (.slice _ _ _)) Try.results68 rfl ?_
    have hre : r = N.evs.length := by omega
    subst hre
    exact ⟨_, _, rfl, Sl.wide hm.sl (by omega) (by omega), cutR_len _, hE⟩

theorem set_same {m : List Bool} {e : Int} (h0 : 0 ≤ e) (h : el m e = true) : m.set e.toNat true = m := by
  refine extEl (by simp) (fun i i0 i1 => ?_)
  rw [List.length_set] at i1
  by_cases q : i = e
  · subst q; rw [elSetS h0 i1, h]
  · rw [elSetN h0 i0 q]
def CloX (N : Net) (tree : List Int) (arc : Int) (m : List Bool) : Prop := ∀ q : Nat, q < tree.length → el tree (q : Int) ≠ arc → el m (el N.acts (el tree (q : Int))).fr = el m (el N.acts (el tree (q : Int))).tt
theorem set_ge {m : List Bool} {e : Int} (h0 : 0 ≤ e) (h1 : e < m.length) : m.count true ≤ (m.set e.toNat true).count true := by
  cases h : el m e with
  | true => rw [set_same h0 h]; exact Nat.le_refl _
  | false => rw [cnt_set h0 h1 h]; omega
theorem cutS_sd {N : Net} {tree : List Int} {arc : Int} {m : List Bool} {q : Nat} (h : SdI N tree arc m) (hm : ∀ t ∈ tree, AcOk N (el N.acts t)) (hq : q < tree.length) : SdI N tree arc (cutS N tree arc q m) ∧ ((cutS N tree arc q m = m ∧ (el tree (q : Int) ≠ arc → el m (el N.acts (el tree (q : Int))).fr = el m (el N.acts (el tree (q : Int))).tt)) ∨ m.count true < (cutS N tree arc q m).count true) := by
  have hmt := el_mem (l := tree) (i := (q : Int)) (by omega) (by omega)
  have a := hm _ hmt
  have hl := h.len
  have f0 := a.f0
  have f1 := a.f1
  have t0 := a.t0
  have t1 := a.t1
  unfold cutS
  split
  · rename_i hc
    obtain ⟨hne, hor⟩ := hc
    cases h1 : el m (el N.acts (el tree (q : Int))).fr with
    | true =>
      rw [set_same f0 h1]
      refine ⟨h.put hmt hne (.inl ⟨rfl, rfl⟩) f0 f1 t0 t1 h1, ?_⟩
      cases h2 : el m (el N.acts (el tree (q : Int))).tt with
      | true => rw [set_same t0 h2]; exact .inl ⟨rfl, fun _ => rfl⟩
      | false => rw [cnt_set t0 (by omega) h2]; exact .inr (by omega)
    | false =>
      have h2 : el m (el N.acts (el tree (q : Int))).tt = true := by
        rcases hor with k | k
        · rw [h1] at k; cases k
        · exact k
      have h3 := h.put hmt hne (.inr ⟨rfl, rfl⟩) t0 t1 f0 f1 h2
      have h4 : el (m.set (el N.acts (el tree (q : Int))).fr.toNat true) (el N.acts (el tree (q : Int))).tt = true := by rw [elSetN f0 t0 (fun e => a.ne e.symm)]; exact h2
      rw [set_same t0 h4]
      exact ⟨h3, .inr (by rw [cnt_set f0 (by omega) h1]; omega)⟩
  · rename_i hc
    refine ⟨h, .inl ⟨rfl, fun hne => ?_⟩⟩
    cases h1 : el m (el N.acts (el tree (q : Int))).fr with
    | true => exact absurd ⟨hne, .inl h1⟩ hc
    | false =>
      cases h2 : el m (el N.acts (el tree (q : Int))).tt with
      | true => exact absurd ⟨hne, .inr h2⟩ hc
      | false => rfl
theorem cutI_sd {N : Net} {tree : List Int} {arc : Int} {m : List Bool} (h : SdI N tree arc m) (hm : ∀ t ∈ tree, AcOk N (el N.acts t)) : ∀ q : Nat, q ≤ tree.length → SdI N tree arc (cutI N tree arc m q) ∧ ((cutI N tree arc m q = m ∧ ∀ p : Nat, p < q → el tree (p : Int) ≠ arc → el m (el N.acts (el tree (p : Int))).fr = el m (el N.acts (el tree (p : Int))).tt) ∨ m.count true < (cutI N tree arc m q).count true)
  | 0, _ => ⟨h, .inl ⟨rfl, fun p hp => by omega⟩⟩
  | q + 1, hq => by
    obtain ⟨i1, i2⟩ := cutI_sd h hm q (by omega)
    obtain ⟨s1, s2⟩ := cutS_sd i1 hm (q := q) (by omega)
    refine ⟨s1, ?_⟩
    show (cutS N tree arc q (cutI N tree arc m q) = m ∧ _) ∨ _ < (cutS N tree arc q (cutI N tree arc m q)).count true
    rcases s2 with ⟨e, hc⟩ | s2
    · rw [e]
      rcases i2 with ⟨e2, hp⟩ | i2
      · rw [e2] at hc
        refine .inl ⟨e2, fun p hp' hne => ?_⟩
        by_cases k : p = q
        · subst k; exact hc hne
        · exact hp p (by omega) hne
      · exact .inr i2
    · rcases i2 with ⟨e2, hp⟩ | i2
      · rw [e2] at s2 ⊢; exact .inr s2
      · exact .inr (by omega)
theorem cutR_sd {N : Net} {tree : List Int} {arc : Int} (ok : AcOk N (el N.acts arc)) (hm : ∀ t ∈ tree, AcOk N (el N.acts t)) : ∀ r : Nat, SdI N tree arc (cutR N tree arc r) ∧ (CloX N tree arc (cutR N tree arc r) ∨ r + 1 ≤ (cutR N tree arc r).count true)
  | 0 => ⟨SdI.start ok, .inr (by
      show 0 + 1 ≤ ((List.replicate N.evs.length false).set (el N.acts arc).tt.toNat true).count true
      rw [cnt_set ok.t0 (by rw [List.length_replicate]; exact ok.t1) (elRep ok.t0 ok.t1)]; omega)⟩
  | r + 1 => by
    obtain ⟨i1, i2⟩ := cutR_sd ok hm r
    obtain ⟨s1, s2⟩ := cutI_sd i1 hm tree.length (Nat.le_refl _)
    refine ⟨s1, ?_⟩
    show CloX N tree arc (cutI N tree arc (cutR N tree arc r) tree.length) ∨ r + 1 + 1 ≤ (cutI N tree arc (cutR N tree arc r) tree.length).count true
    rcases s2 with ⟨e, hc⟩ | s2
    · rw [e]; exact .inl hc
    · rcases i2 with i2 | i2
      · left
        have hsame : ∀ q : Nat, q ≤ tree.length → cutI N tree arc (cutR N tree arc r) q = cutR N tree arc r := by
          intro q
          induction q with
          | zero => intro _; rfl
          | succ q ih =>
            intro hq
            show cutS N tree arc q (cutI N tree arc (cutR N tree arc r) q) = _
            rw [ih (by omega)]
            unfold cutS
            split
            · rename_i hc
              have a := hm _ (el_mem (l := tree) (i := (q : Int)) (by omega) (by omega))
              have hcl := i2 q (by omega) hc.1
              have h1 : el (cutR N tree arc r) (el N.acts (el tree (q : Int))).fr = true := by
                rcases hc.2 with k | k
                · exact k
                · rw [hcl]; exact k
              rw [set_same a.f0 h1, set_same a.t0 (by rw [← hcl]; exact h1)]
            · rfl
        rw [hsame _ (Nat.le_refl _)]; exact i2
      · exact .inr (by omega)
theorem cutL_sd {N : Net} {tree : List Int} {arc : Int} (ok : AcOk N (el N.acts arc)) (hm : ∀ t ∈ tree, AcOk N (el N.acts t)) : cutL N tree arc = sdL N tree arc := by
  obtain ⟨h1, h2⟩ := cutR_sd ok hm N.evs.length
  refine h1.done (fun t ht hne => ?_)
  obtain ⟨q, hq, rfl⟩ := List.getElem_of_mem ht
  have e : el tree (q : Int) = tree[q] := by simp [el, hq]
  rcases h2 with h2 | h2
  · have := h2 q hq (by rw [e]; exact hne)
    rwa [e] at this
  · have := List.count_le_length (a := true) (l := cutR N tree arc N.evs.length)
    rw [h1.len] at this; omega
theorem dur_bound {N : Net} {t : List Int} (hN : NetOk N) (k : Nat) : -39065600000000 ≤ sumC (fun a => a.wt * durA N t a) (N.acts.take k) ∧ sumC (fun a => a.wt * durA N t a) (N.acts.take k) ≤ 39065600000000 := by
  have h := sumC_bound (f := fun a => a.wt * durA N t a) (B := 76300000000) (N.acts.take k) (fun a ha => by
    have ok := hN.acs a (List.mem_of_mem_take ha)
    have hs := slk_rng (N := N) (t := t) (a := a) hN.p2
    have h7 := hN.p7
    have h1 := prodB ok.w0 ok.w1 (b := durA N t a) (B := 72736) (by rw [dur_slk]; have := ok.m0; omega) (by rw [dur_slk]; have := ok.m1; have := ok.m2; omega)
    show -76300000000 ≤ a.wt * durA N t a ∧ a.wt * durA N t a ≤ 76300000000
    omega)
  have hl := hN.ac
  have h2 : (76300000000 : Int) * (N.acts.take k).length ≤ 39065600000000 := by
    have : ((N.acts.take k).length : Int) ≤ 512 := by simp; omega
    omega
  omega

set_option maxRecDepth 100000 in
theorem ref11_Cost_ok (N : Net) (A : NetA) (lo hi : Nat) (t : List Int) (at_ : Option Addr) (ct : Nat) (lt ht : Nat) (w : World) (hN : NetIn lo hi w N A) (hT : Ints lt ht w at_ t)  : Cal Try.prog 26 [netV N A, .slice at_ t.length ct] w (fun v w' => ∃ c e, v = .tuple #[.int .i64 c, .int .i64 e] ∧ (goodT N t = true → c = sumC (fun a => a.wt * durA N t a) N.acts ∧ e = 0) ∧ (goodT N t = false → c = 0 ∧ e = 1) ∧ Ext w w') := by
  replace hN := hN.full
  replace hT := Ints.full hT
  have hE : Out 0 0 w w := Out.refl _ _ w
  refine enter Try.func26 rfl Try.ntmps26 rfl ?_
  refine wp_seq ?_
  refine rg ?_
  refine sd (d_boxA rfl ?_)
  intro b2 w1 hbb2 hs3 ho2 hb2
  have hz4 := ho2.size
  replace hN := hN.ext ho2
  replace hT := hT.ext ho2
  replace hE := hE.step ho2 (.inl (Nat.le_refl _))
  refine st (asI rfl) ?_
  refine st (asI rfl) ?_
  refine rg_end ?_
  refine n_then ?_
  refine wp_seq ?_
  refine wp_seq ?_
  refine rg ?_
  refine st (y_lbN hb2 agg26 rfl) ?_
  refine st (mvS rfl) ?_
  refine sc cl47 (ref11_Good_ok N A _ _ t _ _ _ _ _ hN hT) rfl ?_
  rintro v9 w5 ⟨rfl, ho6⟩
  have hz10 := ho6.size
  replace hN := hN.ext ho6
  replace hT := hT.ext ho6
  replace hE := hE.step ho6 (.inl (Nat.le_refl _))
  replace hb2 := hb2.ext ho6
  refine st (y_not rfl) ?_
  refine rg_end ?_
  refine n_then ?_
  refine cnd rfl (fun hc0 => ?_) (fun hc0 => ?_)
  ·
    try simp only [decide_eq_true_eq, decide_eq_false_iff_not, Bool.not_eq_true', Bool.not_eq_false', Bool.and_eq_true, Bool.or_eq_true, Bool.or_eq_false_iff, Bool.cond_true_right, Bool.cond_false_right, Bool.cond_true_left, Bool.cond_false_left, ne_eq, Decidable.not_not, bne_iff_ne, beq_iff_eq, beq_eq_false_iff_ne, Bool.not_true, Bool.not_false] at hc0
    refine wp_seq ?_
    refine rg ?_
    refine st (asI rfl) ?_
    refine st (asI rfl) ?_
    refine rg_end ?_
    refine n_then ?_
    refine wp_ret ?_
    refine r_then (ret2 (v := (.int .i64 _)) (v' := (.int .i64 _)) Try.results26 rfl rfl ?_)
    exact ⟨0, 1, rfl, (fun h => by rw [hc0] at h; cases h), (fun _ => ⟨rfl, rfl⟩), hE⟩
  ·
    try simp only [decide_eq_true_eq, decide_eq_false_iff_not, Bool.not_eq_true', Bool.not_eq_false', Bool.and_eq_true, Bool.or_eq_true, Bool.or_eq_false_iff, Bool.cond_true_right, Bool.cond_false_right, Bool.cond_true_left, Bool.cond_false_left, ne_eq, Decidable.not_not, bne_iff_ne, beq_iff_eq, beq_eq_false_iff_ne, Bool.not_true, Bool.not_false] at hc0
    have hg := goodT_iff.1 hc0
    have hna := hg.ok.ac
    refine wp_skip ?_
    refine n_then ?_
    refine wp_seq ?_
    refine rg ?_
    refine st (asI rfl) ?_
    refine rg_end ?_
    refine n_then ?_
    refine wp_seq ?_
    refine wp_seq ?_
    refine rg ?_
    refine st (asI rfl) ?_
    refine rg_end ?_
    refine n_then ?_
    refine wp_block ?_
    refine lp (γ := Nat × Int) [6, 7, 12, 13, 14, 15, 16, 17, 18, 19, 20, 21, 22, 23, 24, 25, 26, 27, 28, 29, 30, 31, 32, 33, 34, 35] (fun ⟨k, c⟩ => [(7, .int .i64 (k : Int)), (6, .int .i64 c)]) (fun ⟨k, c⟩ w_ => Ext w5 w_ ∧ (k : Int) ≤ N.acts.length ∧ c = sumC (fun a => a.wt * durA N t a) (N.acts.take k)) (fun ⟨k, c⟩ => N.acts.length - k) (0, 0) ⟨rfl, rfl, trivial⟩ ⟨Out.refl _ _ _, by simp, by simp [sumC]⟩ ?_
    rintro ⟨k, c⟩ hav_ w11 ⟨ho12, hk, hc⟩
    have hlp0 := ho12
    have hz13 := ho12.size
    replace hN := hN.ext ho12
    replace hT := hT.ext ho12
    replace hE := hE.step ho12 (.inl (Nat.le_refl _))
    replace hb2 := hb2.ext ho12
    refine wp_seq ?_
    refine wp_seq ?_
    refine rg ?_
    refine st (mvI rfl) ?_
    refine st (y_fld fld26_2 rfl) ?_
    refine st (y_lb hb2 na24 rfl rfl) ?_
    refine st (y_len Try.underlying24 rfl) ?_
    refine st (y_lss rfl rfl) ?_
    refine rg_end ?_
    refine n_then ?_
    refine cnd rfl (fun hc1 => ?_) (fun hc1 => ?_)
    ·
      try simp only [decide_eq_true_eq, decide_eq_false_iff_not, Bool.not_eq_true', Bool.not_eq_false', Bool.and_eq_true, Bool.or_eq_true, Bool.or_eq_false_iff, Bool.cond_true_right, Bool.cond_false_right, Bool.cond_true_left, Bool.cond_false_left, ne_eq, Decidable.not_not, bne_iff_ne, beq_iff_eq, beq_eq_false_iff_ne, Bool.not_true, Bool.not_false] at hc1
      have ha := hg.ok.acs _ (el_mem (l := N.acts) (i := (k : Int)) (by omega) hc1)
      have hdb := dur_bound (t := t) hg.ok k
      have hdb1 := dur_bound (t := t) hg.ok (k + 1)
      rw [tkS hc1, sumC_snoc] at hdb1
      have hsr := slk_rng (N := N) (t := t) (a := el N.acts (k : Int)) hg.ok.p2
      have hp7 := hg.ok.p7
      have hpr := prodB ha.w0 ha.w1 (b := durA N t (el N.acts (k : Int))) (B := 72736) (by rw [dur_slk]; have := ha.m0; omega) (by rw [dur_slk]; have := ha.m1; have := ha.m2; omega)
      refine wp_skip ?_
      refine n_then ?_
      refine wp_seq ?_
      refine wp_block ?_
      refine rgD 16 (fun w_ => Ext w11 w_) (fun i => Nat.beq i 14) mixed (by kernel_rfl) ?_
      intro w14 ho15 hs16
      refine ⟨ho15, ?_⟩
      have hx17 := ho15
      refine tn rfl (fun _ hG => mvI rfl) ?_
      refine tn rfl (fun _ hG => y_fld fld26_2 rfl) ?_
      refine tn rfl (fun _ hG => y_lb (hb2.ext hG) na24 rfl rfl) ?_
      refine tn rfl (fun _ hG => mvI rfl) ?_
      refine tn rfl (fun _ hG => y_ix (hN.a.ext hG) sl24 rfl (rfl) rfl (by omega) (by omega)) ?_
      refine tn rfl (fun _ hG => y_fld fld36_5 rfl) ?_
      refine tn rfl (fun _ hG => y_lf (hN.a.ext hG) na3 rfl (by omega) (by omega) rfl) ?_
      refine tn rfl (fun _ hG => y_lbN (hb2.ext hG) agg26 rfl) ?_
      refine tn rfl (fun _ hG => mvS rfl) ?_
      refine tn rfl (fun _ hG => y_fld fld26_2 rfl) ?_
      refine tn rfl (fun _ hG => y_lb (hb2.ext hG) na24 rfl rfl) ?_
      refine tn rfl (fun _ hG => mvI rfl) ?_
      refine tn rfl (fun _ hG => y_ix (hN.a.ext hG) sl24 rfl (rfl) rfl (by omega) (by omega)) ?_
      refine tn rfl (fun _ hG => y_lw (hN.a.ext hG) agg36 rfl (by omega) (by omega)) ?_
      refine tc rfl cl48 (ref11_Lasts_ok N A _ _ t _ _ _ _ _ _ (hN.ext hx17) (hT.ext hx17) hg ha) rfl ?_
      rintro v22 w18 ⟨rfl, ho19⟩
      have hx23 := hx17.step ho19 (.inl (Nat.le_refl _))
      have hz24 := ho19.size
      refine ⟨hx23, ?_⟩
      refine tn rfl (fun _ hG => y_mul rfl rfl (by omega)) ?_
      refine t_end ?_
      have hz25 := hx23.size
      replace hN := hN.ext hx23
      replace hT := hT.ext hx23
      replace hE := hE.step hx23 (.inl (Nat.le_refl _))
      replace hb2 := hb2.ext hx23
      replace hlp0 := hlp0.step hx23 (.inl (Nat.le_refl _))
      refine st (y_add rfl rfl (by omega)) ?_
      refine st (asI rfl) ?_
      refine rg_end ?_
      refine n_blk ?_
      refine n_then ?_
      refine rg ?_
      refine st (mvI rfl) ?_
      refine st (y_add rfl rfl (by omega)) ?_
      refine st (asI rfl) ?_
      refine rg_end ?_
      exact n_then ⟨(k + 1, _), _, rfl, same_lk rfl (same_h0), ⟨rfl, rfl, trivial⟩, ⟨hlp0, by omega, by rw [tkS hc1, sumC_snoc, hc]⟩, by first | omega | (dsimp only; omega)⟩
    ·
      try simp only [decide_eq_true_eq, decide_eq_false_iff_not, Bool.not_eq_true', Bool.not_eq_false', Bool.and_eq_true, Bool.or_eq_true, Bool.or_eq_false_iff, Bool.cond_true_right, Bool.cond_false_right, Bool.cond_true_left, Bool.cond_false_left, ne_eq, Decidable.not_not, bne_iff_ne, beq_iff_eq, beq_eq_false_iff_ne, Bool.not_true, Bool.not_false] at hc1
      rw [tkE hc1] at hc
      refine wp_exit ?_
      refine e_then (e_then (e_blk (?_)))
      refine n_then ?_
      refine wp_seq ?_
      refine rg ?_
      refine st (mvI rfl) ?_
      refine st (asI rfl) ?_
      refine st (asI rfl) ?_
      refine rg_end ?_
      refine n_then ?_
      refine wp_ret ?_
      refine ret2 (v := (.int .i64 _)) (v' := (.int .i64 _)) Try.results26 rfl rfl ?_
      exact ⟨c, 0, rfl, (fun _ => ⟨hc, rfl⟩), (fun h => by rw [hc0] at h; cases h), hE⟩

set_option maxRecDepth 100000 in
theorem ref13_Cut_ok (N : Net) (A : NetA) (lo hi : Nat) (tree : List Int) (at_ : Option Addr) (ct lt ht : Nat) (arc : Int) (w : World) (hN : NetIn lo hi w N A) (hT : Ints lt ht w at_ tree) (htn : (tree.length : Int) ≤ 9223372036854775807)  : Cal Try.prog 51 [netV N A, .slice at_ tree.length ct, .int .i64 arc] w (fun v w' => ∃ ad c m e, v = .tuple #[.slice ad m.length c, .int .i64 e] ∧ Sl encB 1 w.heap.size w'.heap.size w' ad m ∧ (¬ FoOk N tree → m = [] ∧ e = 1) ∧ (FoOk N tree → ¬ arc ∈ tree → m = [] ∧ e = 4) ∧ (FoOk N tree → arc ∈ tree → m = sdL N tree arc ∧ e = 0) ∧ Ext w w') := by
  replace hN := hN.full
  replace hT := Ints.full hT
  have hE : Out 0 0 w w := Out.refl _ _ w
  refine enter Try.func51 rfl Try.ntmps51 rfl ?_
  refine wp_seq ?_
  refine rg ?_
  refine sd (d_boxA rfl ?_)
  intro b3 w1 hbb3 hs3 ho2 hb3
  have hz4 := ho2.size
  replace hN := hN.ext ho2
  replace hT := hT.ext ho2
  replace hE := hE.step ho2 (.inl (Nat.le_refl _))
  refine st (asS rfl) ?_
  refine st (asI rfl) ?_
  refine rg_end ?_
  refine n_then ?_
  refine wp_seq ?_
  refine wp_seq ?_
  refine rg ?_
  refine st (y_lbN hb3 agg26 rfl) ?_
  refine st (mvS rfl) ?_
  refine sc cl22 (ref11_Forest_ok N A _ _ tree _ _ _ _ _ hN hT htn) rfl ?_
  rintro v9 w5 ⟨b, rfl, hb, ho6⟩
  have hz10 := ho6.size
  replace hN := hN.ext ho6
  replace hT := hT.ext ho6
  replace hE := hE.step ho6 (.inl (Nat.le_refl _))
  replace hb3 := hb3.ext ho6
  refine st (y_not rfl) ?_
  refine rg_end ?_
  refine n_then ?_
  refine cnd rfl (fun hc0 => ?_) (fun hc0 => ?_)
  ·
    try simp only [decide_eq_true_eq, decide_eq_false_iff_not, Bool.not_eq_true', Bool.not_eq_false', Bool.and_eq_true, Bool.or_eq_true, Bool.or_eq_false_iff, Bool.cond_true_right, Bool.cond_false_right, Bool.cond_true_left, Bool.cond_false_left, ne_eq, Decidable.not_not, bne_iff_ne, beq_iff_eq, beq_eq_false_iff_ne, Bool.not_true, Bool.not_false] at hc0
    have hno : ¬ FoOk N tree := fun h => by rw [hb.2 h] at hc0; cases hc0
    refine wp_seq ?_
    refine rg ?_
    refine st (asS rfl) ?_
    refine st (asI rfl) ?_
    refine rg_end ?_
    refine n_then ?_
    refine wp_ret ?_
    refine r_then (ret2 (v := (.slice _ _ _)) (v' := (.int .i64 _)) Try.results51 rfl rfl ?_)
    exact ⟨none, 0, [], 1, rfl, nilS0, fun _ => ⟨rfl, rfl⟩, fun h => absurd h hno, fun h => absurd h hno, hE⟩
  ·
    try simp only [decide_eq_true_eq, decide_eq_false_iff_not, Bool.not_eq_true', Bool.not_eq_false', Bool.and_eq_true, Bool.or_eq_true, Bool.or_eq_false_iff, Bool.cond_true_right, Bool.cond_false_right, Bool.cond_true_left, Bool.cond_false_left, ne_eq, Decidable.not_not, bne_iff_ne, beq_iff_eq, beq_eq_false_iff_ne, Bool.not_true, Bool.not_false] at hc0
    have hfo := hb.1 hc0
    refine wp_skip ?_
    refine n_then ?_
    refine wp_seq ?_
    refine wp_seq ?_
    refine rg ?_
    refine st (mvS rfl) ?_
    refine st (mvI rfl) ?_
    refine sc cl67 (ref13_has_ok tree _ _ _ _ arc _ hT htn) rfl ?_
    rintro v15 w11 ⟨rfl, ho12⟩
    have hz16 := ho12.size
    replace hN := hN.ext ho12
    replace hT := hT.ext ho12
    replace hE := hE.step ho12 (.inl (Nat.le_refl _))
    replace hb3 := hb3.ext ho12
    refine st (y_not rfl) ?_
    refine rg_end ?_
    refine n_then ?_
    refine cnd rfl (fun hc1 => ?_) (fun hc1 => ?_)
    ·
      try simp only [decide_eq_true_eq, decide_eq_false_iff_not, Bool.not_eq_true', Bool.not_eq_false', Bool.and_eq_true, Bool.or_eq_true, Bool.or_eq_false_iff, Bool.cond_true_right, Bool.cond_false_right, Bool.cond_true_left, Bool.cond_false_left, ne_eq, Decidable.not_not, bne_iff_ne, beq_iff_eq, beq_eq_false_iff_ne, Bool.not_true, Bool.not_false] at hc1
      refine wp_seq ?_
      refine rg ?_
      refine st (asS rfl) ?_
      refine st (asI rfl) ?_
      refine rg_end ?_
      refine n_then ?_
      refine wp_ret ?_
      refine r_then (ret2 (v := (.slice _ _ _)) (v' := (.int .i64 _)) Try.results51 rfl rfl ?_)
      exact ⟨none, 0, [], 4, rfl, nilS0, fun h => absurd hfo h, fun _ _ => ⟨rfl, rfl⟩, fun _ h => absurd h hc1, hE⟩
    ·
      try simp only [decide_eq_true_eq, decide_eq_false_iff_not, Bool.not_eq_true', Bool.not_eq_false', Bool.and_eq_true, Bool.or_eq_true, Bool.or_eq_false_iff, Bool.cond_true_right, Bool.cond_false_right, Bool.cond_true_left, Bool.cond_false_left, ne_eq, Decidable.not_not, bne_iff_ne, beq_iff_eq, beq_eq_false_iff_ne, Bool.not_true, Bool.not_false] at hc1
      have hor := hfo.mem arc hc1
      have hcs := cutL_sd (N := N) (tree := tree) (arc := arc) (hfo.ok.acs _ (el_mem hor.1 hor.2)) (fun t ht => hfo.ok.acs _ (el_mem (hfo.mem t ht).1 (hfo.mem t ht).2))
      refine wp_skip ?_
      refine n_then ?_
      refine wp_seq ?_
      refine rg ?_
      refine st (y_lbN hb3 agg26 rfl) ?_
      refine st (mvS rfl) ?_
      refine st (mvI rfl) ?_
      refine sc cl68 (ref13_cut_ok N A _ _ tree _ _ _ _ arc _ hN hT htn hfo.ok hfo.mem hor.1 hor.2) rfl ?_
      rintro v21 w17 ⟨am, cm, rfl, hm, hml, ho18⟩
      rw [hcs] at hm
      have hz22 := ho18.size
      replace hN := hN.ext ho18
      replace hT := hT.ext ho18
      replace hE := hE.step ho18 (.inl (Nat.le_refl _))
      replace hb3 := hb3.ext ho18
      refine st (asS rfl) ?_
      refine st (asI rfl) ?_
      refine rg_end ?_
      refine n_then ?_
      refine wp_ret ?_
      refine ret2 (v := (.slice _ _ _)) (v' := (.int .i64 _)) Try.results51 rfl rfl ?_
      exact ⟨am, cm, sdL N tree arc, 0, by rw [sdL_len], Sl.wide hm (by omega) (by omega), fun h => absurd hfo h, fun _ h => absurd hc1 h, fun _ _ => ⟨rfl, rfl⟩, hE⟩
end Go.Proofs.Ytgekfafangcggaa
