/-
  Walks of the functions, printed by a program out of the code and the loops' relations.
-/
import Derived.Test.YtgekfafangcggaaWkI
import Derived.Test.YtgekfafangcggaaProg
import Derived.KernelRfl
import Derived.Test.YtgekfafangcggaaT2
import Derived.Test.YtgekfafangcggaaSd
import Derived.Test.YtgekfafangcggaaWkQ
namespace Go.Proofs.Ytgekfafangcggaa
open Go.Wk Go.RowKit
set_option linter.unusedVariables false
set_option linter.unusedSimpArgs false
theorem cl38 : Callable Try.prog 38 := ⟨Try.call38⟩
theorem cl39 : Callable Try.prog 39 := ⟨Try.call39⟩
theorem cl40 : Callable Try.prog 40 := ⟨Try.call40⟩
theorem cl59 : Callable Try.prog 59 := ⟨Try.call59⟩

theorem nilS0 {α : Type} {enc : α → List Value} {sz lo hi : Nat} {w : World} : Sl enc sz lo hi w none ([] : List α) := ⟨fun h => absurd rfl h, fun i x hx => by simp at hx⟩

set_option maxRecDepth 100000 in
theorem slices_Index_ok (l : List Int) (al : Option Addr) (cl ll hl : Nat) (x : Int) (w : World) (hL : Ints ll hl w al l) (hn : (l.length : Int) ≤ 9223372036854775807) : Cal Try.prog 59 [.slice al l.length cl, .int .i64 x] w (fun v w' => ∃ i : Int, v = .int .i64 i ∧ ((x ∈ l ∧ 0 ≤ i ∧ i < l.length ∧ el l i = x) ∨ (¬ x ∈ l ∧ i = -1)) ∧ Ext w w') := by
  replace hL := Ints.full hL
  have hE : Out 0 0 w w := Out.refl _ _ w
  refine enter Try.func59 rfl Try.ntmps59 rfl ?_
  refine wp_seq ?_
  refine rg ?_
  refine st (asI rfl) ?_
  refine rg_end ?_
  refine n_then ?_
  refine wp_seq ?_
  refine wp_seq ?_
  refine rg ?_
  refine st (mvS rfl) ?_
  refine st (y_len Try.underlying22 rfl) ?_
  refine st (mvI rfl) ?_
  refine rg_end ?_
  refine n_then ?_
  refine wp_block ?_
  refine lp (γ := Nat) [4, 5, 8, 9, 10, 11, 12, 13, 14, 15, 16, 17, 18] (fun k => [(8, .int .i64 (k : Int))]) (fun k w_ => Ext w w_ ∧ (k : Int) ≤ l.length ∧ ∀ q : Nat, q < k → el l (q : Int) ≠ x) (fun k => l.length - k) 0 ⟨rfl, trivial⟩ ⟨Out.refl _ _ _, by omega, fun q hq => by omega⟩ ?_
  rintro k hav_ w1 ⟨ho2, hk, hall⟩
  have hlp0 := ho2
  have hz3 := ho2.size
  replace hL := hL.ext ho2
  replace hE := hE.step ho2 (.inl (Nat.le_refl _))
  refine wp_seq ?_
  refine rg ?_
  refine st (y_lss rfl rfl) ?_
  refine rg_end ?_
  refine n_then ?_
  refine wp_seq ?_
  refine cnd rfl (fun hc0 => ?_) (fun hc0 => ?_)
  ·
    try simp only [decide_eq_true_eq, decide_eq_false_iff_not, Bool.not_eq_true', Bool.not_eq_false', Bool.and_eq_true, Bool.or_eq_true, Bool.or_eq_false_iff, Bool.cond_true_right, Bool.cond_false_right, Bool.cond_true_left, Bool.cond_false_left, ne_eq, Decidable.not_not, bne_iff_ne, beq_iff_eq, beq_eq_false_iff_ne, Bool.not_true, Bool.not_false] at hc0
    refine wp_skip ?_
    refine n_then ?_
    refine wp_seq ?_
    refine wp_block ?_
    refine wp_seq ?_
    refine rg ?_
    refine st (mvI rfl) ?_
    refine st (asI rfl) ?_
    refine rg_end ?_
    refine n_then ?_
    refine wp_seq ?_
    refine rg ?_
    refine st (mvI rfl) ?_
    refine st (mvS rfl) ?_
    refine st (mvI rfl) ?_
    refine st (y_ix hL sl22 rfl (rfl) rfl (by omega) (by omega)) ?_
    refine st (y_le hL na3 rfl (by omega) (by omega) rfl) ?_
    refine st (y_eql rfl rfl) ?_
    refine rg_end ?_
    refine n_then ?_
    refine cnd rfl (fun hc1 => ?_) (fun hc1 => ?_)
    ·
      try simp only [decide_eq_true_eq, decide_eq_false_iff_not, Bool.not_eq_true', Bool.not_eq_false', Bool.and_eq_true, Bool.or_eq_true, Bool.or_eq_false_iff, Bool.cond_true_right, Bool.cond_false_right, Bool.cond_true_left, Bool.cond_false_left, ne_eq, Decidable.not_not, bne_iff_ne, beq_iff_eq, beq_eq_false_iff_ne, Bool.not_true, Bool.not_false] at hc1
      have hin : x ∈ l := hc1.symm ▸ el_mem (by omega) (by omega)
      refine wp_seq ?_
      refine rg ?_
      refine st (mvI rfl) ?_
      refine st (asI rfl) ?_
      refine rg_end ?_
      refine n_then ?_
      refine wp_ret ?_
      refine r_blk (r_then (r_then (r_blk (r_then (ret1 (v := (.int .i64 _)) Try.results59 rfl ?_)))))
      exact ⟨(k : Int), rfl, .inl ⟨hin, by omega, by omega, hc1.symm⟩, hE⟩
    ·
      try simp only [decide_eq_true_eq, decide_eq_false_iff_not, Bool.not_eq_true', Bool.not_eq_false', Bool.and_eq_true, Bool.or_eq_true, Bool.or_eq_false_iff, Bool.cond_true_right, Bool.cond_false_right, Bool.cond_true_left, Bool.cond_false_left, ne_eq, Decidable.not_not, bne_iff_ne, beq_iff_eq, beq_eq_false_iff_ne, Bool.not_true, Bool.not_false] at hc1
      have hall1 : ∀ q : Nat, q < k + 1 → el l (q : Int) ≠ x := fun q hq => by
        by_cases e : q = k
        · subst e; exact fun h => hc1 h.symm
        · exact hall q (by omega)
      refine wp_skip ?_
      refine n_blk ?_
      refine n_then ?_
      refine rg ?_
      refine st (y_add rfl rfl (by omega)) ?_
      refine st (mvI rfl) ?_
      refine rg_end ?_
      exact n_then ⟨k + 1, _, rfl, same_lk rfl (same_h0), ⟨rfl, trivial⟩, ⟨hlp0, by omega, hall1⟩, by first | omega | (dsimp only; omega)⟩
  ·
    try simp only [decide_eq_true_eq, decide_eq_false_iff_not, Bool.not_eq_true', Bool.not_eq_false', Bool.and_eq_true, Bool.or_eq_true, Bool.or_eq_false_iff, Bool.cond_true_right, Bool.cond_false_right, Bool.cond_true_left, Bool.cond_false_left, ne_eq, Decidable.not_not, bne_iff_ne, beq_iff_eq, beq_eq_false_iff_ne, Bool.not_true, Bool.not_false] at hc0
    have hni : ¬ x ∈ l := fun h => by
      obtain ⟨i, hi, e⟩ := List.getElem_of_mem h
      exact hall i (by omega) (by simpa [el, hi] using e)
    refine wp_exit ?_
    refine e_then (e_then (e_blk (?_)))
    refine n_then ?_
    refine wp_seq ?_
    refine rg ?_
    refine st (asI rfl) ?_
    refine rg_end ?_
    refine n_then ?_
    refine wp_ret ?_
    refine ret1 (v := (.int .i64 _)) Try.results59 rfl ?_
    exact ⟨-1, rfl, .inr ⟨hni, rfl⟩, hE⟩

set_option maxRecDepth 100000 in
theorem slices_Contains_ok (l : List Int) (al : Option Addr) (cl ll hl : Nat) (x : Int) (w : World) (hL : Ints ll hl w al l) (hn : (l.length : Int) ≤ 9223372036854775807) : Cal Try.prog 39 [.slice al l.length cl, .int .i64 x] w (fun v w' => v = .bool (decide (x ∈ l)) ∧ Ext w w') := by
  replace hL := Ints.full hL
  have hE : Out 0 0 w w := Out.refl _ _ w
  refine enter Try.func39 rfl Try.ntmps39 rfl ?_
  refine wp_seq ?_
  refine rg ?_
  refine st (asB rfl) ?_
  refine rg_end ?_
  refine n_then ?_
  refine wp_seq ?_
  refine rg ?_
  refine st (mvS rfl) ?_
  refine st (mvI rfl) ?_
  refine sc cl59 (slices_Index_ok l _ _ _ _ x _ hL hn) rfl ?_
  rintro v5 w1 ⟨i, rfl, hi_, ho2⟩
  have hz6 := ho2.size
  replace hL := hL.ext ho2
  replace hE := hE.step ho2 (.inl (Nat.le_refl _))
  refine st (y_geq rfl rfl) ?_
  refine st (asB rfl) ?_
  refine rg_end ?_
  refine n_then ?_
  refine wp_ret ?_
  refine ret1 (v := (.bool _)) Try.results39 rfl ?_
  exact ⟨vb (by
    rcases hi_ with h | h
    · simp [h.1]; omega
    · simp [h.1]; omega), hE⟩

set_option maxHeartbeats 2000000 in
set_option maxRecDepth 100000 in
theorem simplex_cut_ok (N : Net) (A : NetA) (lo hi : Nat) (tree : List Int) (at_ : Option Addr) (ct lt ht : Nat) (arc : Int) (w : World) (hN : NetIn lo hi w N A) (hT : Ints lt ht w at_ tree) (htn : (tree.length : Int) ≤ 9223372036854775807) (hok : NetOk N) (htm : ∀ a ∈ tree, 0 ≤ a ∧ a < N.acts.length) (a0 : 0 ≤ arc) (a1 : arc < N.acts.length) : Cal Try.prog 40 [netV N A, .slice at_ tree.length ct, .int .i64 arc] w (fun v w' => ∃ ad c, v = .slice ad N.evs.length c ∧ Sl encB 1 w.heap.size w'.heap.size w' ad (sdL N tree arc) ∧ Ext w w') := by
  replace hN := hN.full
  replace hT := Ints.full hT
  have hev := hok.ev
  have hac := hok.ac
  have haa := hok.acs _ (el_mem a0 a1)
  have htok : ∀ t ∈ tree, AcOk N (el N.acts t) := fun t ht => hok.acs _ (el_mem (htm t ht).1 (htm t ht).2)
  have hE : Out 0 0 w w := Out.refl _ _ w
  refine enter Try.func40 rfl Try.ntmps40 rfl ?_
  refine wp_seq ?_
  refine rg ?_
  refine sd (d_boxA rfl ?_)
  intro b3 w1 hbb3 hs3 ho2 hb3
  have hz4 := ho2.size
  replace hN := hN.ext ho2
  replace hT := hT.ext ho2
  replace hE := hE.step ho2 (.inl (Nat.le_refl _))
  refine st (asS rfl) ?_
  refine rg_end ?_
  refine n_then ?_
  refine wp_seq ?_
  refine rg ?_
  refine st (y_fld fld26_1 rfl) ?_
  refine st (y_lb hb3 na23 rfl rfl) ?_
  refine st (y_len Try.underlying23 rfl) ?_
  refine sd (d_make (m := N.evs.length) (lo := w1.heap.size) (enc := encB) (e0 := false) sl31 info4 (fun _ => rfl) rfl rfl rfl (by omega) (by unfold maxLen; omega) (by omega) ?_)
  intro bm w5 hbbm hs7 ho6 hm
  have hz9 := ho6.size
  replace hN := hN.ext ho6
  replace hT := hT.ext ho6
  replace hE := hE.step ho6 (.inl (Nat.le_refl _))
  replace hb3 := hb3.ext ho6
  refine st (asS rfl) ?_
  refine rg_end ?_
  refine n_then ?_
  refine wp_seq ?_
  refine rg ?_
  refine st (y_fld fld26_2 rfl) ?_
  refine st (y_lb hb3 na24 rfl rfl) ?_
  refine st (mvI rfl) ?_
  refine st (y_ix hN.a sl24 rfl (rfl) rfl (a0) (a1)) ?_
  refine st (y_fld fld36_2 rfl) ?_
  refine st (y_lf hN.a na3 rfl (a0) (a1) rfl) ?_
  refine st (asI rfl) ?_
  refine rg_end ?_
  refine n_then ?_
  refine wp_seq ?_
  refine rg ?_
  refine st (mvS rfl) ?_
  refine st (mvI rfl) ?_
  refine st (y_ix hm.sl sl31 rfl (by simp) rfl (haa.t0) (by simp; have := haa.t1; omega)) ?_
  refine sd0 (d_se (j := 0) (e' := true) hm sz4 rfl rfl rfl (haa.t0) (by simp; have := haa.t1; omega) (Nat.le_of_ble_eq_true rfl) rfl ?_)
  intro w10 hs12 ho11 hm'
  have hrhm := hm.rng
  clear hm; have hm := hm'; clear hm'
  have hz13 := ho11.size
  replace hN := hN.out ho11 (by first | omega | (simp only [blk_some, hi1_some] at *; omega))
  replace hT := hT.out ho11 (by first | omega | (simp only [blk_some, hi1_some] at *; omega))
  replace hE := hE.step ho11 (by first | omega | (simp only [blk_some, hi1_some] at *; omega))
  replace hb3 := hb3.out ho11 (by first | omega | (simp only [blk_some, hi1_some] at *; omega))
  refine rg_end ?_
  refine n_then ?_
  refine wp_seq ?_
  refine rg ?_
  refine st (mvI rfl) ?_
  refine sd (d_bsO (lo := w10.heap.size) (enc := encI) (l := [_]) (sz := 1) (fun _ => rfl) (bsl22_1 _ _) rfl rfl (by unfold maxLen; omega) (by omega) ?_)
  intro bq w14 hbbq hs16 ho15 hQ0
  have hz17 := ho15.size
  replace hN := hN.ext ho15
  replace hT := hT.ext ho15
  replace hE := hE.step ho15 (.inl (Nat.le_refl _))
  replace hb3 := hb3.ext ho15
  replace hm := hm.ext ho15
  have hQ := Ow.qu hQ0 (by simp)
  refine st (asS rfl) ?_
  refine rg_end ?_
  refine n_then ?_
  refine wp_seq ?_
  refine wp_block ?_
  refine lp (γ := List Bool × List Int × Option Addr × Nat) [9, 10, 12, 13, 14, 30, 31, 32, 33, 34, 35, 36, 37, 38, 39, 40, 41, 42, 43, 44, 45, 46, 47, 48, 49, 50, 51, 52, 53, 54, 55, 56, 57, 58, 59, 60, 61, 62, 63, 64, 65, 66, 67, 68, 69, 70, 71, 72, 73, 74, 75, 76, 77, 78] (fun ⟨m, q, aq, cq⟩ => [(9, .slice aq q.length cq)]) (fun ⟨m, q, aq, cq⟩ w_ => Out bm (bq + 1) w14 w_ ∧ CqI N tree arc m q ∧ q.length ≤ m.count true ∧ Ow 4 encB 1 bm (bm + 1) w_ (some ⟨bm, 0, none⟩) N.evs.length  m ∧ Qu 3 bq w_.heap.size w_ aq cq q) (fun ⟨m, q, aq, cq⟩ => q.length + N.evs.length - m.count true) (((List.replicate N.evs.length false).set (el N.acts arc).tt.toNat true), [(el N.acts arc).tt], some ⟨bq, 0, none⟩, 1) ⟨rfl, trivial⟩ ⟨Out.refl _ _ _, CqI.start haa htok, by (rw [cnt_set haa.t0 (by rw [List.length_replicate]; exact haa.t1) (elRep haa.t0 haa.t1)]; simp), hm.lower (by omega), (hQ.lower (by omega)).wide (by omega)⟩ ?_
  rintro ⟨m, q, aq, cq⟩ hav_ w18 ⟨ho19, hcq, hqc, hm, hQ⟩
  have hlp0 := ho19
  have hz20 := ho19.size
  replace hN := hN.out ho19 (by first | omega | (simp only [blk_some, hi1_some] at *; omega))
  replace hT := hT.out ho19 (by first | omega | (simp only [blk_some, hi1_some] at *; omega))
  replace hE := hE.step ho19 (by first | omega | (simp only [blk_some, hi1_some] at *; omega))
  replace hb3 := hb3.out ho19 (by first | omega | (simp only [blk_some, hi1_some] at *; omega))
  refine wp_seq ?_
  refine wp_seq ?_
  refine rg ?_
  refine st (mvS rfl) ?_
  refine st (y_len Try.underlying22 rfl) ?_
  refine st (y_gtr rfl rfl) ?_
  refine rg_end ?_
  refine n_then ?_
  refine cnd rfl (fun hc0 => ?_) (fun hc0 => ?_)
  ·
    try simp only [decide_eq_true_eq, decide_eq_false_iff_not, Bool.not_eq_true', Bool.not_eq_false', Bool.and_eq_true, Bool.or_eq_true, Bool.or_eq_false_iff, Bool.cond_true_right, Bool.cond_false_right, Bool.cond_true_left, Bool.cond_false_left, ne_eq, Decidable.not_not, bne_iff_ne, beq_iff_eq, beq_eq_false_iff_ne, Bool.not_true, Bool.not_false] at hc0
    obtain ⟨x, q', rfl⟩ : ∃ x q', q = x :: q' := by
      cases q with
      | nil => simp at hc0
      | cons x q' => exact ⟨x, q', rfl⟩
    have hQt := hQ.tail
    have hcj := hcq.pop
    have hml := hcq.sd.len
    have hcn : m.count true ≤ m.length := List.count_le_length
    refine wp_skip ?_
    refine n_then ?_
    refine wp_block ?_
    refine wp_seq ?_
    refine rg ?_
    refine st (mvS rfl) ?_
    refine st (y_ix hQ.sl sl22 rfl (rfl) rfl (by omega) (by simp only [List.length_cons]; omega)) ?_
    refine st (y_le hQ.sl na3 rfl (by omega) (by simp only [List.length_cons]; omega) rfl) ?_
    refine st (asI rfl) ?_
    refine rg_end ?_
    refine n_then ?_
    refine wp_seq ?_
    refine rg ?_
    refine st (mvS rfl) ?_
    refine st (y_sll sl22 rfl rfl (by omega) (by simp only [List.length_cons]; omega)) ?_
    refine st (asS rfl) ?_
    refine rg_end ?_
    refine n_then ?_
    refine wp_seq ?_
    refine rg ?_
    refine st (mvS rfl) ?_
    refine st (y_len Try.underlying22 rfl) ?_
    refine st (mvI rfl) ?_
    refine rg_end ?_
    refine n_then ?_
    refine wp_block ?_
    obtain ⟨zi, hzi⟩ : ∃ z, z = w18.heap.size := ⟨_, rfl⟩
    obtain ⟨D, hD⟩ : ∃ D, q'.length + N.evs.length = D + m.count true := ⟨q'.length + N.evs.length - m.count true, by omega⟩
    refine lp (γ := Nat × List Bool × List Int × Option Addr × Nat) [9, 10, 12, 13, 14, 40, 41, 42, 43, 44, 45, 46, 47, 48, 49, 50, 51, 52, 53, 54, 55, 56, 57, 58, 59, 60, 61, 62, 63, 64, 65, 66, 67, 68, 69, 70, 71, 72, 73, 74, 75, 76, 77, 78] (fun ⟨k, m2, q2, aq2, cq2⟩ => [(40, .int .i64 (k : Int)), (9, .slice aq2 q2.length cq2), (10, .int .i64 x)]) (fun ⟨k, m2, q2, aq2, cq2⟩ w_ => Out bm zi w18 w_ ∧ (k : Int) ≤ tree.length ∧ CqJ N tree arc m2 q2 x k ∧ q2.length + N.evs.length = D + m2.count true ∧ q2.length ≤ m2.count true ∧ Ow 4 encB 1 bm (bm + 1) w_ (some ⟨bm, 0, none⟩) N.evs.length  m2 ∧ Qu 3 bq w_.heap.size w_ aq2 cq2 q2) (fun ⟨k, m2, q2, aq2, cq2⟩ => tree.length - k) (0, m, q', adv aq 1 cq 1, cq - 1) ⟨rfl, rfl, rfl, trivial⟩ ⟨Out.refl _ _ _, by omega, hcj, hD, by simp only [List.length_cons] at hqc; omega, hm, hQt⟩ ?_
    rintro ⟨k, m2, q2, aq2, cq2⟩ hav_ w21 ⟨ho22, hk_, hcq2, hD2, hqc2, hm, hQ⟩
    have hlp1 := ho22
    have hz23 := ho22.size
    replace hN := hN.out ho22 (by first | omega | (simp only [blk_some, hi1_some] at *; omega))
    replace hT := hT.out ho22 (by first | omega | (simp only [blk_some, hi1_some] at *; omega))
    replace hE := hE.step ho22 (by first | omega | (simp only [blk_some, hi1_some] at *; omega))
    replace hb3 := hb3.out ho22 (by first | omega | (simp only [blk_some, hi1_some] at *; omega))
    replace hlp0 := hlp0.stepT ho22 (Nat.le_refl _) (by omega)
    refine wp_seq ?_
    refine rg ?_
    refine st (y_lss rfl rfl) ?_
    refine rg_end ?_
    refine n_then ?_
    refine wp_seq ?_
    refine cnd rfl (fun hc1 => ?_) (fun hc1 => ?_)
    ·
      try simp only [decide_eq_true_eq, decide_eq_false_iff_not, Bool.not_eq_true', Bool.not_eq_false', Bool.and_eq_true, Bool.or_eq_true, Bool.or_eq_false_iff, Bool.cond_true_right, Bool.cond_false_right, Bool.cond_true_left, Bool.cond_false_left, ne_eq, Decidable.not_not, bne_iff_ne, beq_iff_eq, beq_eq_false_iff_ne, Bool.not_true, Bool.not_false] at hc1
      have htq := htm _ (el_mem (l := tree) (i := (k : Int)) (by omega) hc1)
      have ha := htok _ (el_mem (l := tree) (i := (k : Int)) (by omega) hc1)
      have f0 := ha.f0
      have f1 := ha.f1
      have t0 := ha.t0
      have t1 := ha.t1
      have hml2 := hcq2.sd.len
      have hcn2 : m2.count true ≤ m2.length := List.count_le_length
      refine wp_skip ?_
      refine n_then ?_
      refine wp_seq ?_
      refine wp_block ?_
      refine wp_seq ?_
      refine rg ?_
      refine st (y_ix hT sl22 rfl (rfl) rfl (by omega) (by omega)) ?_
      refine st (y_le hT na3 rfl (by omega) (by omega) rfl) ?_
      refine st (asI rfl) ?_
      refine rg_end ?_
      refine n_then ?_
      refine wp_seq ?_
      refine rg ?_
      refine st (y_fld fld26_2 rfl) ?_
      refine st (y_lb hb3 na24 rfl rfl) ?_
      refine st (mvI rfl) ?_
      refine st (y_ix hN.a sl24 rfl (rfl) rfl (by omega) (by omega)) ?_
      refine st (y_lw hN.a agg36 rfl (by omega) (by omega)) ?_
      refine sd (d_allocA zer36 ?_)
      intro b13 w24 hbb13 hs26 ho25 hb13
      have hz27 := ho25.size
      replace hN := hN.ext ho25
      replace hT := hT.ext ho25
      replace hE := hE.step ho25 (.inl (Nat.le_refl _))
      replace hb3 := hb3.ext ho25
      replace hlp0 := hlp0.step ho25 (.inl (Nat.le_refl _))
      replace hm := hm.ext ho25
      replace hQ := hQ.ext ho25
      replace hlp1 := hlp1.step ho25 (.inl (Nat.le_refl _))
      refine sd0 (d_stN hb13 rfl rfl sz36 rfl rfl ?_)
      intro w28 hs30 ho29 hb13'
      clear hb13; have hb13 := hb13'; clear hb13'
      have hz31 := ho29.size
      replace hN := hN.out ho29 (by first | omega | (simp only [blk_some, hi1_some] at *; omega))
      replace hT := hT.out ho29 (by first | omega | (simp only [blk_some, hi1_some] at *; omega))
      replace hE := hE.step ho29 (by first | omega | (simp only [blk_some, hi1_some] at *; omega))
      replace hb3 := hb3.out ho29 (by first | omega | (simp only [blk_some, hi1_some] at *; omega))
      replace hlp0 := hlp0.step ho29 (by first | omega | (simp only [blk_some, hi1_some] at *; omega))
      have hrnhm := hm.rng
      replace hm := hm.out ho29 (by first | omega | (simp only [blk_some, hi1_some] at *; omega))
      have hrnhQ := hQ.rng
      replace hQ := hQ.out ho29 (by first | omega | (simp only [blk_some, hi1_some] at *; omega))
      replace hlp1 := hlp1.step ho29 (by first | omega | (simp only [blk_some, hi1_some] at *; omega))
      refine rg_end ?_
      refine n_then ?_
      refine wp_seq ?_
      refine rg ?_
      refine st (y_fld fld36_1 rfl) ?_
      refine st (y_lb hb13 na3 rfl rfl) ?_
      refine st (asI rfl) ?_
      refine rg_end ?_
      refine n_then ?_
      refine wp_seq ?_
      refine wp_seq ?_
      refine rg ?_
      refine st (y_fld fld36_1 rfl) ?_
      refine st (y_lb hb13 na3 rfl rfl) ?_
      refine st (mvI rfl) ?_
      refine st (y_eql rfl rfl) ?_
      refine rg_end ?_
      refine n_then ?_
      refine cnd rfl (fun hc2 => ?_) (fun hc2 => ?_)
      ·
        try simp only [decide_eq_true_eq, decide_eq_false_iff_not, Bool.not_eq_true', Bool.not_eq_false', Bool.and_eq_true, Bool.or_eq_true, Bool.or_eq_false_iff, Bool.cond_true_right, Bool.cond_false_right, Bool.cond_true_left, Bool.cond_false_left, ne_eq, Decidable.not_not, bne_iff_ne, beq_iff_eq, beq_eq_false_iff_ne, Bool.not_true, Bool.not_false] at hc2
        refine rg ?_
        refine st (y_fld fld36_2 rfl) ?_
        refine st (y_lb hb13 na3 rfl rfl) ?_
        refine st (asI rfl) ?_
        refine rg_end ?_
        refine n_then ?_
        refine wp_seq ?_
        refine rg ?_
        refine st (mvI rfl) ?_
        refine st (mvI rfl) ?_
        refine st (y_neq rfl rfl) ?_
        refine st (mvB rfl) ?_
        refine gspL 64 rfl (fun hg32 => ?_) (fun hg32 => ?_)
        ·
          have hg32n := hg32; try simp only [decide_eq_true_eq, decide_eq_false_iff_not, Bool.not_eq_true', Bool.not_eq_false', Bool.and_eq_true, Bool.or_eq_true, Bool.or_eq_false_iff, Bool.cond_true_right, Bool.cond_false_right, Bool.cond_true_left, Bool.cond_false_left, ne_eq, Decidable.not_not, bne_iff_ne, beq_iff_eq, beq_eq_false_iff_ne, Bool.not_true, Bool.not_false] at hg32n
          have htne : el tree (k : Int) ≠ arc := by omega
          refine stg rfl rfl hg32 (mvS rfl) ?_
          refine stg rfl rfl hg32 (mvI rfl) ?_
          refine stg rfl rfl hg32 (y_ix hm.sl sl31 rfl (hcq2.sd.len.symm) rfl (by omega) (by omega)) ?_
          refine stg rfl rfl hg32 (y_le hm.sl na4 rfl (by omega) (by omega) rfl) ?_
          refine stg rfl rfl hg32 (y_not rfl) ?_
          refine st (y_pickT rfl hg32 (v := .bool _) rfl) ?_
          refine rg_end ?_
          refine n_then ?_
          refine cnd rfl (fun hc4 => ?_) (fun hc4 => ?_)
          ·
            try simp only [decide_eq_true_eq, decide_eq_false_iff_not, Bool.not_eq_true', Bool.not_eq_false', Bool.and_eq_true, Bool.or_eq_true, Bool.or_eq_false_iff, Bool.cond_true_right, Bool.cond_false_right, Bool.cond_true_left, Bool.cond_false_left, ne_eq, Decidable.not_not, bne_iff_ne, beq_iff_eq, beq_eq_false_iff_ne, Bool.not_true, Bool.not_false] at hc4
            have hcq3 := hcq2.put htok (by omega) htne (by first | exact .inl ⟨hc2.symm, rfl⟩ | exact .inr ⟨hc3.symm, rfl⟩) hc4
            have hct := cnt_set (l := m2) (by omega) (by omega) hc4
            have hcn2 : m2.count true ≤ m2.length := List.count_le_length
            have hcn3 := List.count_le_length (a := true) (l := m2)
            refine wp_seq ?_
            refine rg ?_
            refine st (mvS rfl) ?_
            refine st (mvI rfl) ?_
            refine st (y_ix hm.sl sl31 rfl (hcq2.sd.len.symm) rfl (by omega) (by omega)) ?_
            refine sd0 (d_se (j := 0) (e' := true) hm sz4 rfl rfl rfl (by omega) (by omega) (Nat.le_of_ble_eq_true rfl) rfl ?_)
            intro w33 hs35 ho34 hm'
            have hrhm := hm.rng
            clear hm; have hm := hm'; clear hm'
            have hz36 := ho34.size
            replace hN := hN.out ho34 (by first | omega | (simp only [blk_some, hi1_some] at *; omega))
            replace hT := hT.out ho34 (by first | omega | (simp only [blk_some, hi1_some] at *; omega))
            replace hE := hE.step ho34 (by first | omega | (simp only [blk_some, hi1_some] at *; omega))
            replace hb3 := hb3.out ho34 (by first | omega | (simp only [blk_some, hi1_some] at *; omega))
            replace hlp0 := hlp0.step ho34 (by first | omega | (simp only [blk_some, hi1_some] at *; omega))
            replace hQ := hQ.out ho34 (by first | omega | (simp only [blk_some, hi1_some] at *; omega))
            replace hlp1 := hlp1.step ho34 (by first | omega | (simp only [blk_some, hi1_some] at *; omega))
            replace hb13 := hb13.out ho34 (by first | omega | (simp only [blk_some, hi1_some] at *; omega))
            refine rg_end ?_
            refine n_then ?_
            refine rg ?_
            refine st (mvS rfl) ?_
            refine st (mvI rfl) ?_
            refine sd (d_bs (bsl22_1 _ _) rfl ?_)
            intro bx w37 hbbx hs39 ho38 hbx
            have hz40 := ho38.size
            replace hN := hN.ext ho38
            replace hT := hT.ext ho38
            replace hE := hE.step ho38 (.inl (Nat.le_refl _))
            replace hb3 := hb3.ext ho38
            replace hlp0 := hlp0.step ho38 (.inl (Nat.le_refl _))
            replace hm := hm.ext ho38
            replace hQ := hQ.ext ho38
            replace hlp1 := hlp1.step ho38 (.inl (Nat.le_refl _))
            replace hb13 := hb13.ext ho38
            have hrhQ := hQ.rng
            refine sd (d_appQ (xs := [_]) hQ sl22 infoz3 rfl rfl rfl rfl (hbx) (by simp; unfold maxLen; omega) (by simp; omega) (by omega) (by omega) ?_)
            intro aq3 cq3 w41 ho42 hQ'
            have hs43 := ho42.size
            clear hQ; have hQ := hQ'; clear hQ'
            have hz46 := ho42.size
            replace hN := hN.out ho42 (by first | omega | (simp only [blk_some, hi1_some] at *; omega))
            replace hT := hT.out ho42 (by first | omega | (simp only [blk_some, hi1_some] at *; omega))
            replace hE := hE.step ho42 (by first | omega | (simp only [blk_some, hi1_some] at *; omega))
            replace hb3 := hb3.out ho42 (by first | omega | (simp only [blk_some, hi1_some] at *; omega))
            replace hlp0 := hlp0.step ho42 (by first | omega | (simp only [blk_some, hi1_some] at *; omega))
            replace hm := hm.out ho42 (by first | omega | (simp only [blk_some, hi1_some] at *; omega))
            replace hlp1 := hlp1.step ho42 (by first | omega | (simp only [blk_some, hi1_some] at *; omega))
            replace hb13 := hb13.out ho42 (by first | omega | (simp only [blk_some, hi1_some] at *; omega))
            refine st (asS rfl) ?_
            refine rg_end ?_
            refine n_blk ?_
            refine n_then ?_
            refine rg ?_
            refine st (y_add rfl rfl (by omega)) ?_
            refine st (mvI rfl) ?_
            refine rg_end ?_
            exact n_then ⟨(k + 1, _, _, _, _), _, rfl, same_lk rfl (same_h0), ⟨rfl, rfl, rfl, trivial⟩, ⟨hlp1, by omega, hcq3, by first | exact hD2 | (rw [hct, List.length_append]; simp only [List.length_cons, List.length_nil]; omega), by first | exact hqc2 | (rw [hct, List.length_append]; simp only [List.length_cons, List.length_nil]; omega), hm, by first | exact hQ | exact hQ.wide (by omega)⟩, by first | omega | (dsimp only; omega)⟩
          ·
            try simp only [decide_eq_true_eq, decide_eq_false_iff_not, Bool.not_eq_true', Bool.not_eq_false', Bool.and_eq_true, Bool.or_eq_true, Bool.or_eq_false_iff, Bool.cond_true_right, Bool.cond_false_right, Bool.cond_true_left, Bool.cond_false_left, ne_eq, Decidable.not_not, bne_iff_ne, beq_iff_eq, beq_eq_false_iff_ne, Bool.not_true, Bool.not_false] at hc4
            first
            | have hcq5 := hcq3
            | have hcq3 := hcq2.skip (.inr ⟨fun _ => hc4, fun e => absurd (hc2.trans e.symm) ha.ne⟩)
            | have hcq3 := hcq2.skip (.inr ⟨fun e => absurd e hc2, fun _ => hc4⟩)
            refine wp_skip ?_
            refine n_blk ?_
            refine n_then ?_
            refine rg ?_
            refine st (y_add rfl rfl (by omega)) ?_
            refine st (mvI rfl) ?_
            refine rg_end ?_
            exact n_then ⟨(k + 1, _, _, _, _), _, rfl, same_lk rfl (same_h0), ⟨rfl, rfl, rfl, trivial⟩, ⟨hlp1, by omega, hcq3, by first | exact hD2 | (rw [hct, List.length_append]; simp only [List.length_cons, List.length_nil]; omega), by first | exact hqc2 | (rw [hct, List.length_append]; simp only [List.length_cons, List.length_nil]; omega), hm, by first | exact hQ | exact hQ.wide (by omega)⟩, by first | omega | (dsimp only; omega)⟩
        ·
          have hg32n := hg32; try simp only [decide_eq_true_eq, decide_eq_false_iff_not, Bool.not_eq_true', Bool.not_eq_false', Bool.and_eq_true, Bool.or_eq_true, Bool.or_eq_false_iff, Bool.cond_true_right, Bool.cond_false_right, Bool.cond_true_left, Bool.cond_false_left, ne_eq, Decidable.not_not, bne_iff_ne, beq_iff_eq, beq_eq_false_iff_ne, Bool.not_true, Bool.not_false] at hg32n
          have hcq3 := hcq2.skip (.inl (by omega))
          refine sts rfl rfl hg32 ?_
          refine sts rfl rfl hg32 ?_
          refine sts rfl rfl hg32 ?_
          refine sts rfl rfl hg32 ?_
          refine sts rfl rfl hg32 ?_
          refine st (y_pickF rfl hg32 (v := .bool _) rfl) ?_
          refine rg_end ?_
          refine n_then ?_
          refine cnd rfl (fun hc4 => absurd hc4 (by decide)) (fun hc4 => ?_)
          first
          | have hcq5 := hcq3
          | have hcq3 := hcq2.skip (.inr ⟨fun _ => hc4, fun e => absurd (hc2.trans e.symm) ha.ne⟩)
          | have hcq3 := hcq2.skip (.inr ⟨fun e => absurd e hc2, fun _ => hc4⟩)
          refine wp_skip ?_
          refine n_blk ?_
          refine n_then ?_
          refine rg ?_
          refine st (y_add rfl rfl (by omega)) ?_
          refine st (mvI rfl) ?_
          refine rg_end ?_
          exact n_then ⟨(k + 1, _, _, _, _), _, rfl, same_lk rfl (same_h0), ⟨rfl, rfl, rfl, trivial⟩, ⟨hlp1, by omega, hcq3, by first | exact hD2 | (rw [hct, List.length_append]; simp only [List.length_cons, List.length_nil]; omega), by first | exact hqc2 | (rw [hct, List.length_append]; simp only [List.length_cons, List.length_nil]; omega), hm, by first | exact hQ | exact hQ.wide (by omega)⟩, by first | omega | (dsimp only; omega)⟩
      ·
        try simp only [decide_eq_true_eq, decide_eq_false_iff_not, Bool.not_eq_true', Bool.not_eq_false', Bool.and_eq_true, Bool.or_eq_true, Bool.or_eq_false_iff, Bool.cond_true_right, Bool.cond_false_right, Bool.cond_true_left, Bool.cond_false_left, ne_eq, Decidable.not_not, bne_iff_ne, beq_iff_eq, beq_eq_false_iff_ne, Bool.not_true, Bool.not_false] at hc2
        refine wp_seq ?_
        refine rg ?_
        refine st (y_fld fld36_2 rfl) ?_
        refine st (y_lb hb13 na3 rfl rfl) ?_
        refine st (mvI rfl) ?_
        refine st (y_neq rfl rfl) ?_
        refine rg_end ?_
        refine n_then ?_
        refine cnd rfl (fun hc3 => ?_) (fun hc3 => ?_)
        ·
          try simp only [decide_eq_true_eq, decide_eq_false_iff_not, Bool.not_eq_true', Bool.not_eq_false', Bool.and_eq_true, Bool.or_eq_true, Bool.or_eq_false_iff, Bool.cond_true_right, Bool.cond_false_right, Bool.cond_true_left, Bool.cond_false_left, ne_eq, Decidable.not_not, bne_iff_ne, beq_iff_eq, beq_eq_false_iff_ne, Bool.not_true, Bool.not_false] at hc3
          have hcq3 := hcq2.skip (.inr ⟨fun e => absurd e hc2, fun e => absurd e hc3⟩)
          refine wp_exit ?_
          refine e_then (e_blk (?_))
          refine n_then ?_
          refine rg ?_
          refine st (y_add rfl rfl (by omega)) ?_
          refine st (mvI rfl) ?_
          refine rg_end ?_
          exact n_then ⟨(k + 1, _, _, _, _), _, rfl, same_lk rfl (same_h0), ⟨rfl, rfl, rfl, trivial⟩, ⟨hlp1, by omega, hcq3, by first | exact hD2 | (rw [hct, List.length_append]; simp only [List.length_cons, List.length_nil]; omega), by first | exact hqc2 | (rw [hct, List.length_append]; simp only [List.length_cons, List.length_nil]; omega), hm, by first | exact hQ | exact hQ.wide (by omega)⟩, by first | omega | (dsimp only; omega)⟩
        ·
          try simp only [decide_eq_true_eq, decide_eq_false_iff_not, Bool.not_eq_true', Bool.not_eq_false', Bool.and_eq_true, Bool.or_eq_true, Bool.or_eq_false_iff, Bool.cond_true_right, Bool.cond_false_right, Bool.cond_true_left, Bool.cond_false_left, ne_eq, Decidable.not_not, bne_iff_ne, beq_iff_eq, beq_eq_false_iff_ne, Bool.not_true, Bool.not_false] at hc3
          refine wp_skip ?_
          refine n_then ?_
          refine wp_seq ?_
          refine rg ?_
          refine st (mvI rfl) ?_
          refine st (mvI rfl) ?_
          refine st (y_neq rfl rfl) ?_
          refine st (mvB rfl) ?_
          refine gspL 64 rfl (fun hg47 => ?_) (fun hg47 => ?_)
          ·
            have hg47n := hg47; try simp only [decide_eq_true_eq, decide_eq_false_iff_not, Bool.not_eq_true', Bool.not_eq_false', Bool.and_eq_true, Bool.or_eq_true, Bool.or_eq_false_iff, Bool.cond_true_right, Bool.cond_false_right, Bool.cond_true_left, Bool.cond_false_left, ne_eq, Decidable.not_not, bne_iff_ne, beq_iff_eq, beq_eq_false_iff_ne, Bool.not_true, Bool.not_false] at hg47n
            have htne : el tree (k : Int) ≠ arc := by omega
            refine stg rfl rfl hg47 (mvS rfl) ?_
            refine stg rfl rfl hg47 (mvI rfl) ?_
            refine stg rfl rfl hg47 (y_ix hm.sl sl31 rfl (hcq2.sd.len.symm) rfl (by omega) (by omega)) ?_
            refine stg rfl rfl hg47 (y_le hm.sl na4 rfl (by omega) (by omega) rfl) ?_
            refine stg rfl rfl hg47 (y_not rfl) ?_
            refine st (y_pickT rfl hg47 (v := .bool _) rfl) ?_
            refine rg_end ?_
            refine n_then ?_
            refine cnd rfl (fun hc4 => ?_) (fun hc4 => ?_)
            ·
              try simp only [decide_eq_true_eq, decide_eq_false_iff_not, Bool.not_eq_true', Bool.not_eq_false', Bool.and_eq_true, Bool.or_eq_true, Bool.or_eq_false_iff, Bool.cond_true_right, Bool.cond_false_right, Bool.cond_true_left, Bool.cond_false_left, ne_eq, Decidable.not_not, bne_iff_ne, beq_iff_eq, beq_eq_false_iff_ne, Bool.not_true, Bool.not_false] at hc4
              have hcq3 := hcq2.put htok (by omega) htne (by first | exact .inl ⟨hc2.symm, rfl⟩ | exact .inr ⟨hc3.symm, rfl⟩) hc4
              have hct := cnt_set (l := m2) (by omega) (by omega) hc4
              have hcn2 : m2.count true ≤ m2.length := List.count_le_length
              have hcn3 := List.count_le_length (a := true) (l := m2)
              refine wp_seq ?_
              refine rg ?_
              refine st (mvS rfl) ?_
              refine st (mvI rfl) ?_
              refine st (y_ix hm.sl sl31 rfl (hcq2.sd.len.symm) rfl (by omega) (by omega)) ?_
              refine sd0 (d_se (j := 0) (e' := true) hm sz4 rfl rfl rfl (by omega) (by omega) (Nat.le_of_ble_eq_true rfl) rfl ?_)
              intro w48 hs50 ho49 hm'
              have hrhm := hm.rng
              clear hm; have hm := hm'; clear hm'
              have hz51 := ho49.size
              replace hN := hN.out ho49 (by first | omega | (simp only [blk_some, hi1_some] at *; omega))
              replace hT := hT.out ho49 (by first | omega | (simp only [blk_some, hi1_some] at *; omega))
              replace hE := hE.step ho49 (by first | omega | (simp only [blk_some, hi1_some] at *; omega))
              replace hb3 := hb3.out ho49 (by first | omega | (simp only [blk_some, hi1_some] at *; omega))
              replace hlp0 := hlp0.step ho49 (by first | omega | (simp only [blk_some, hi1_some] at *; omega))
              replace hQ := hQ.out ho49 (by first | omega | (simp only [blk_some, hi1_some] at *; omega))
              replace hlp1 := hlp1.step ho49 (by first | omega | (simp only [blk_some, hi1_some] at *; omega))
              replace hb13 := hb13.out ho49 (by first | omega | (simp only [blk_some, hi1_some] at *; omega))
              refine rg_end ?_
              refine n_then ?_
              refine rg ?_
              refine st (mvS rfl) ?_
              refine st (mvI rfl) ?_
              refine sd (d_bs (bsl22_1 _ _) rfl ?_)
              intro bx w52 hbbx hs54 ho53 hbx
              have hz55 := ho53.size
              replace hN := hN.ext ho53
              replace hT := hT.ext ho53
              replace hE := hE.step ho53 (.inl (Nat.le_refl _))
              replace hb3 := hb3.ext ho53
              replace hlp0 := hlp0.step ho53 (.inl (Nat.le_refl _))
              replace hm := hm.ext ho53
              replace hQ := hQ.ext ho53
              replace hlp1 := hlp1.step ho53 (.inl (Nat.le_refl _))
              replace hb13 := hb13.ext ho53
              have hrhQ := hQ.rng
              refine sd (d_appQ (xs := [_]) hQ sl22 infoz3 rfl rfl rfl rfl (hbx) (by simp; unfold maxLen; omega) (by simp; omega) (by omega) (by omega) ?_)
              intro aq3 cq3 w56 ho57 hQ'
              have hs58 := ho57.size
              clear hQ; have hQ := hQ'; clear hQ'
              have hz61 := ho57.size
              replace hN := hN.out ho57 (by first | omega | (simp only [blk_some, hi1_some] at *; omega))
              replace hT := hT.out ho57 (by first | omega | (simp only [blk_some, hi1_some] at *; omega))
              replace hE := hE.step ho57 (by first | omega | (simp only [blk_some, hi1_some] at *; omega))
              replace hb3 := hb3.out ho57 (by first | omega | (simp only [blk_some, hi1_some] at *; omega))
              replace hlp0 := hlp0.step ho57 (by first | omega | (simp only [blk_some, hi1_some] at *; omega))
              replace hm := hm.out ho57 (by first | omega | (simp only [blk_some, hi1_some] at *; omega))
              replace hlp1 := hlp1.step ho57 (by first | omega | (simp only [blk_some, hi1_some] at *; omega))
              replace hb13 := hb13.out ho57 (by first | omega | (simp only [blk_some, hi1_some] at *; omega))
              refine st (asS rfl) ?_
              refine rg_end ?_
              refine n_blk ?_
              refine n_then ?_
              refine rg ?_
              refine st (y_add rfl rfl (by omega)) ?_
              refine st (mvI rfl) ?_
              refine rg_end ?_
              exact n_then ⟨(k + 1, _, _, _, _), _, rfl, same_lk rfl (same_h0), ⟨rfl, rfl, rfl, trivial⟩, ⟨hlp1, by omega, hcq3, by first | exact hD2 | (rw [hct, List.length_append]; simp only [List.length_cons, List.length_nil]; omega), by first | exact hqc2 | (rw [hct, List.length_append]; simp only [List.length_cons, List.length_nil]; omega), hm, by first | exact hQ | exact hQ.wide (by omega)⟩, by first | omega | (dsimp only; omega)⟩
            ·
              try simp only [decide_eq_true_eq, decide_eq_false_iff_not, Bool.not_eq_true', Bool.not_eq_false', Bool.and_eq_true, Bool.or_eq_true, Bool.or_eq_false_iff, Bool.cond_true_right, Bool.cond_false_right, Bool.cond_true_left, Bool.cond_false_left, ne_eq, Decidable.not_not, bne_iff_ne, beq_iff_eq, beq_eq_false_iff_ne, Bool.not_true, Bool.not_false] at hc4
              first
              | have hcq5 := hcq3
              | have hcq3 := hcq2.skip (.inr ⟨fun _ => hc4, fun e => absurd (hc2.trans e.symm) ha.ne⟩)
              | have hcq3 := hcq2.skip (.inr ⟨fun e => absurd e hc2, fun _ => hc4⟩)
              refine wp_skip ?_
              refine n_blk ?_
              refine n_then ?_
              refine rg ?_
              refine st (y_add rfl rfl (by omega)) ?_
              refine st (mvI rfl) ?_
              refine rg_end ?_
              exact n_then ⟨(k + 1, _, _, _, _), _, rfl, same_lk rfl (same_h0), ⟨rfl, rfl, rfl, trivial⟩, ⟨hlp1, by omega, hcq3, by first | exact hD2 | (rw [hct, List.length_append]; simp only [List.length_cons, List.length_nil]; omega), by first | exact hqc2 | (rw [hct, List.length_append]; simp only [List.length_cons, List.length_nil]; omega), hm, by first | exact hQ | exact hQ.wide (by omega)⟩, by first | omega | (dsimp only; omega)⟩
          ·
            have hg47n := hg47; try simp only [decide_eq_true_eq, decide_eq_false_iff_not, Bool.not_eq_true', Bool.not_eq_false', Bool.and_eq_true, Bool.or_eq_true, Bool.or_eq_false_iff, Bool.cond_true_right, Bool.cond_false_right, Bool.cond_true_left, Bool.cond_false_left, ne_eq, Decidable.not_not, bne_iff_ne, beq_iff_eq, beq_eq_false_iff_ne, Bool.not_true, Bool.not_false] at hg47n
            have hcq3 := hcq2.skip (.inl (by omega))
            refine sts rfl rfl hg47 ?_
            refine sts rfl rfl hg47 ?_
            refine sts rfl rfl hg47 ?_
            refine sts rfl rfl hg47 ?_
            refine sts rfl rfl hg47 ?_
            refine st (y_pickF rfl hg47 (v := .bool _) rfl) ?_
            refine rg_end ?_
            refine n_then ?_
            refine cnd rfl (fun hc4 => absurd hc4 (by decide)) (fun hc4 => ?_)
            first
            | have hcq5 := hcq3
            | have hcq3 := hcq2.skip (.inr ⟨fun _ => hc4, fun e => absurd (hc2.trans e.symm) ha.ne⟩)
            | have hcq3 := hcq2.skip (.inr ⟨fun e => absurd e hc2, fun _ => hc4⟩)
            refine wp_skip ?_
            refine n_blk ?_
            refine n_then ?_
            refine rg ?_
            refine st (y_add rfl rfl (by omega)) ?_
            refine st (mvI rfl) ?_
            refine rg_end ?_
            exact n_then ⟨(k + 1, _, _, _, _), _, rfl, same_lk rfl (same_h0), ⟨rfl, rfl, rfl, trivial⟩, ⟨hlp1, by omega, hcq3, by first | exact hD2 | (rw [hct, List.length_append]; simp only [List.length_cons, List.length_nil]; omega), by first | exact hqc2 | (rw [hct, List.length_append]; simp only [List.length_cons, List.length_nil]; omega), hm, by first | exact hQ | exact hQ.wide (by omega)⟩, by first | omega | (dsimp only; omega)⟩
    ·
      try simp only [decide_eq_true_eq, decide_eq_false_iff_not, Bool.not_eq_true', Bool.not_eq_false', Bool.and_eq_true, Bool.or_eq_true, Bool.or_eq_false_iff, Bool.cond_true_right, Bool.cond_false_right, Bool.cond_true_left, Bool.cond_false_left, ne_eq, Decidable.not_not, bne_iff_ne, beq_iff_eq, beq_eq_false_iff_ne, Bool.not_true, Bool.not_false] at hc1
      have hcq1 := hcq2.close (by omega)
      refine wp_exit ?_
      refine e_then (e_then (e_blk (?_)))
      refine n_blk ?_
      exact n_then ⟨(m2, q2, aq2, cq2), _, rfl, same_lk rfl (same_hav rfl (same_lk rfl (same_h0))), ⟨rfl, trivial⟩, ⟨hlp0, hcq1, hqc2, hm, hQ⟩, by simp only [List.length_cons]; have := hcq1.sd.len; have : m2.count true ≤ m2.length := List.count_le_length; omega⟩
  ·
    try simp only [decide_eq_true_eq, decide_eq_false_iff_not, Bool.not_eq_true', Bool.not_eq_false', Bool.and_eq_true, Bool.or_eq_true, Bool.or_eq_false_iff, Bool.cond_true_right, Bool.cond_false_right, Bool.cond_true_left, Bool.cond_false_left, ne_eq, Decidable.not_not, bne_iff_ne, beq_iff_eq, beq_eq_false_iff_ne, Bool.not_true, Bool.not_false] at hc0
    have hq0 : q = [] := List.eq_nil_of_length_eq_zero (by omega)
    subst hq0
    have hdn := hcq.done
    refine wp_exit ?_
    refine e_then (e_then (e_blk (?_)))
    refine n_then ?_
    refine wp_seq ?_
    refine rg ?_
    refine st (mvS rfl) ?_
    refine st (asS rfl) ?_
    refine rg_end ?_
    refine n_then ?_
    refine wp_ret ?_
    refine ret1 (v := (.slice _ _ _)) Try.results40 rfl ?_
    exact ⟨_, _, rfl, by rw [← hdn]; exact Sl.wide hm.sl (by omega) (by omega), hE⟩

set_option maxRecDepth 100000 in
theorem simplex_Cut_ok (N : Net) (A : NetA) (lo hi : Nat) (tree : List Int) (at_ : Option Addr) (ct lt ht : Nat) (arc : Int) (w : World) (hN : NetIn lo hi w N A) (hT : Ints lt ht w at_ tree) (htn : (tree.length : Int) ≤ 9223372036854775807)  : Cal Try.prog 16 [netV N A, .slice at_ tree.length ct, .int .i64 arc] w (fun v w' => ∃ ad c m e, v = .tuple #[.slice ad m.length c, .int .i64 e] ∧ Sl encB 1 w.heap.size w'.heap.size w' ad m ∧ (¬ FoOk N tree → m = [] ∧ e = 1) ∧ (FoOk N tree → ¬ arc ∈ tree → m = [] ∧ e = 4) ∧ (FoOk N tree → arc ∈ tree → m = sdL N tree arc ∧ e = 0) ∧ Ext w w') := by
  replace hN := hN.full
  replace hT := Ints.full hT
  have hE : Out 0 0 w w := Out.refl _ _ w
  refine enter Try.func16 rfl Try.ntmps16 rfl ?_
  refine wp_seq ?_
  refine rg ?_
  refine sd (d_boxA rfl ?_)
  intro b3 w1 hbb3 hs3 ho2 hb3
  have hz4 := ho2.size
  replace hN := hN.ext ho2
  replace hT := hT.ext ho2
  replace hE := hE.step ho2 (.inl (Nat.le_refl _))
  refine st (asS rfl) ?_
  refine st (asI rfl) ?_
  refine rg_end ?_
  refine n_then ?_
  refine wp_seq ?_
  refine wp_seq ?_
  refine rg ?_
  refine st (y_lbN hb3 agg26 rfl) ?_
  refine st (mvS rfl) ?_
  refine sc cl38 (cycles_Forest_ok N A _ _ tree _ _ _ _ _ hN hT htn) rfl ?_
  rintro v9 w5 ⟨b, rfl, hb, ho6⟩
  have hz10 := ho6.size
  replace hN := hN.ext ho6
  replace hT := hT.ext ho6
  replace hE := hE.step ho6 (.inl (Nat.le_refl _))
  replace hb3 := hb3.ext ho6
  refine st (y_not rfl) ?_
  refine rg_end ?_
  refine n_then ?_
  refine cnd rfl (fun hc0 => ?_) (fun hc0 => ?_)
  ·
    try simp only [decide_eq_true_eq, decide_eq_false_iff_not, Bool.not_eq_true', Bool.not_eq_false', Bool.and_eq_true, Bool.or_eq_true, Bool.or_eq_false_iff, Bool.cond_true_right, Bool.cond_false_right, Bool.cond_true_left, Bool.cond_false_left, ne_eq, Decidable.not_not, bne_iff_ne, beq_iff_eq, beq_eq_false_iff_ne, Bool.not_true, Bool.not_false] at hc0
    have hno : ¬ FoOk N tree := fun h => by rw [hb.2 h] at hc0; cases hc0
    refine wp_seq ?_
    refine rg ?_
    refine st (asS rfl) ?_
    refine st (asI rfl) ?_
    refine rg_end ?_
    refine n_then ?_
    refine wp_ret ?_
    refine r_then (ret2 (v := (.slice _ _ _)) (v' := (.int .i64 _)) Try.results16 rfl rfl ?_)
    exact ⟨none, 0, [], 1, rfl, nilS0, fun _ => ⟨rfl, rfl⟩, fun h => absurd h hno, fun h => absurd h hno, hE⟩
  ·
    try simp only [decide_eq_true_eq, decide_eq_false_iff_not, Bool.not_eq_true', Bool.not_eq_false', Bool.and_eq_true, Bool.or_eq_true, Bool.or_eq_false_iff, Bool.cond_true_right, Bool.cond_false_right, Bool.cond_true_left, Bool.cond_false_left, ne_eq, Decidable.not_not, bne_iff_ne, beq_iff_eq, beq_eq_false_iff_ne, Bool.not_true, Bool.not_false] at hc0
    have hfo := hb.1 hc0
    refine wp_skip ?_
    refine n_then ?_
    refine wp_seq ?_
    refine wp_seq ?_
    refine rg ?_
    refine st (mvS rfl) ?_
    refine st (mvI rfl) ?_
    refine sc cl39 (slices_Contains_ok tree _ _ _ _ arc _ hT htn) rfl ?_
    rintro v15 w11 ⟨rfl, ho12⟩
    have hz16 := ho12.size
    replace hN := hN.ext ho12
    replace hT := hT.ext ho12
    replace hE := hE.step ho12 (.inl (Nat.le_refl _))
    replace hb3 := hb3.ext ho12
    refine st (y_not rfl) ?_
    refine rg_end ?_
    refine n_then ?_
    refine cnd rfl (fun hc1 => ?_) (fun hc1 => ?_)
    ·
      try simp only [decide_eq_true_eq, decide_eq_false_iff_not, Bool.not_eq_true', Bool.not_eq_false', Bool.and_eq_true, Bool.or_eq_true, Bool.or_eq_false_iff, Bool.cond_true_right, Bool.cond_false_right, Bool.cond_true_left, Bool.cond_false_left, ne_eq, Decidable.not_not, bne_iff_ne, beq_iff_eq, beq_eq_false_iff_ne, Bool.not_true, Bool.not_false] at hc1
      refine wp_seq ?_
      refine rg ?_
      refine st (asS rfl) ?_
      refine st (asI rfl) ?_
      refine rg_end ?_
      refine n_then ?_
      refine wp_ret ?_
      refine r_then (ret2 (v := (.slice _ _ _)) (v' := (.int .i64 _)) Try.results16 rfl rfl ?_)
      exact ⟨none, 0, [], 4, rfl, nilS0, fun h => absurd hfo h, fun _ _ => ⟨rfl, rfl⟩, fun _ h => absurd h hc1, hE⟩
    ·
      try simp only [decide_eq_true_eq, decide_eq_false_iff_not, Bool.not_eq_true', Bool.not_eq_false', Bool.and_eq_true, Bool.or_eq_true, Bool.or_eq_false_iff, Bool.cond_true_right, Bool.cond_false_right, Bool.cond_true_left, Bool.cond_false_left, ne_eq, Decidable.not_not, bne_iff_ne, beq_iff_eq, beq_eq_false_iff_ne, Bool.not_true, Bool.not_false] at hc1
      have hor := hfo.mem arc hc1
      refine wp_skip ?_
      refine n_then ?_
      refine wp_seq ?_
      refine rg ?_
      refine st (y_lbN hb3 agg26 rfl) ?_
      refine st (mvS rfl) ?_
      refine st (mvI rfl) ?_
      refine sc cl40 (simplex_cut_ok N A _ _ tree _ _ _ _ arc _ hN hT htn hfo.ok hfo.mem hor.1 hor.2) rfl ?_
      rintro v21 w17 ⟨am, cm, rfl, hm, ho18⟩
      have hz22 := ho18.size
      replace hN := hN.ext ho18
      replace hT := hT.ext ho18
      replace hE := hE.step ho18 (.inl (Nat.le_refl _))
      replace hb3 := hb3.ext ho18
      refine st (asS rfl) ?_
      refine st (asI rfl) ?_
      refine rg_end ?_
      refine n_then ?_
      refine wp_ret ?_
      refine ret2 (v := (.slice _ _ _)) (v' := (.int .i64 _)) Try.results16 rfl rfl ?_
      exact ⟨am, cm, sdL N tree arc, 0, by rw [sdL_len], Sl.wide hm (by omega) (by omega), fun h => absurd hfo h, fun _ h => absurd hc1 h, fun _ _ => ⟨rfl, rfl⟩, hE⟩
end Go.Proofs.Ytgekfafangcggaa
