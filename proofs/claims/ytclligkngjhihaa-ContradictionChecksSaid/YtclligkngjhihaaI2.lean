/-
  Walks of the functions, printed by a program out of the code and the loops' relations.
-/
import Derived.Test.YtclligkngjhihaaWkH
import Derived.Test.YtclligkngjhihaaProg
import Derived.KernelRfl
import Derived.Test.YtclligkngjhihaaI1
namespace Go.Proofs.Ytclligkngjhihaa
open Go.Wk Go.RowKit
set_option linter.unusedVariables false
set_option linter.unusedSimpArgs false
theorem findE_rng {M : Net} {L : Int} (hM : NetOk M) (h0 : 1 ≤ L) (h1 : L ≤ 1048576) : findE M false L = 0 ∨ findE M false L = 14 ∨ findE M false L = 15 := by
  unfold findE
  rw [if_pos (netOk_iff.2 hM), if_pos ⟨h0, h1⟩]
  repeat' split
  all_goals simp
theorem sf_ok {M : Net} {L : Int} (h0 : 1 ≤ L) (h : findE M false L = 0) : sfE M L = 0 ∧ sfB M L = true ∧ sfT M L = findT M false L ∧ sfU M L = findU M false L := by
  have e : sfE M L = 0 := by unfold sfE; rw [if_neg (by omega), if_neg (by omega)]
  exact ⟨e, by unfold sfB; simp [e, h], by unfold sfT; rw [if_pos e], by unfold sfU; rw [if_pos e]⟩
theorem sf_no {M : Net} {L : Int} (h0 : 1 ≤ L) (h : findE M false L = 14) : sfE M L = 0 ∧ sfB M L = false ∧ sfU M L = findU M false L := by
  have e : sfE M L = 0 := by unfold sfE; rw [if_neg (by omega), if_neg (by omega)]
  exact ⟨e, by unfold sfB; simp [h], by unfold sfU; rw [if_pos e]⟩
theorem sf_15 {M : Net} {L : Int} (h : findE M false L = 15) : ¬ sfE M L = 0 := by
  unfold sfE
  by_cases h1 : L = 0
  · rw [if_pos h1]; omega
  · rw [if_neg h1, if_pos h]; omega
theorem sf_z {M : Net} : ¬ sfE M 0 = 0 := by unfold sfE; rw [if_pos rfl]; omega
theorem cf_refN {N : Net} {B : Int} (h : findE N false B = 0) : cfE N B = 6 := by
  obtain ⟨hN, _⟩ := findE_cases (.inr h)
  have hB : 1 ≤ B ∧ B ≤ 1048576 := by
    apply Classical.byContradiction; intro hb
    unfold findE at h; rw [if_pos (netOk_iff.2 hN), if_neg hb] at h; omega
  have q := sf_ok hB.1 h
  exact cf6 (netOk_iff.2 hN) hB q.1 q.2.1
theorem cf_refI {N : Net} {B : Int} (h : findE N false B = 14) : NetOk N ∧ (1 ≤ B ∧ B ≤ 1048576) ∧ sfE N B = 0 ∧ sfB N B = false ∧ findU N false B = sfU N B := by
  obtain ⟨hN, _⟩ := findE_cases (.inl h)
  have hB : 1 ≤ B ∧ B ≤ 1048576 := by
    apply Classical.byContradiction; intro hb
    unfold findE at h; rw [if_pos (netOk_iff.2 hN), if_neg hb] at h; omega
  have q := sf_no hB.1 h
  exact ⟨hN, hB, q.1, q.2.1, q.2.2.symm⟩
theorem cf_refE {N : Net} {B : Int} (h : ¬ findE N false B = 0) (h2 : ¬ findE N false B = 14) : cfE N B = findE N false B := by
  by_cases h1 : netOk N = true
  · by_cases hB : 1 ≤ B ∧ B ≤ 1048576
    · have h15 : findE N false B = 15 := by
        have := findE_rng (netOk_iff.1 h1) hB.1 hB.2
        omega
      rw [h15]; exact cf15 h1 hB (sf_15 h15)
    · rw [cf4 h1 hB]; unfold findE; rw [if_pos h1, if_neg hB]
  · rw [cf1 (by simpa using h1)]; unfold findE; rw [if_neg h1]
theorem setB_all (n : Nat) : setB (List.replicate n true) = upTo 0 n := by
  unfold setB
  rw [List.length_replicate, setTo_true (k := 0) _ (Nat.zero_le _) (fun j _ h => elRep (by omega) (by omega))]
  rfl

set_option maxHeartbeats 2000000 in
set_option maxRecDepth 100000 in
theorem ref17_Find_ok (N : Net) (A : NetA) (lo hi : Nat) (B : Int) (w : World) (hN : NetIn lo hi w N A)  : Cal Try.prog 29 [netV N A, .int .i64 B] w (fun v w' => ∃ as_ cs aw cw rows, v = .tuple #[.agg #[.slice as_ (cfS N B).length cs, .slice aw rows.length cw], .int .i64 (cfU N B), .int .i64 (cfE N B)] ∧ (cfS N B).length ≤ cs ∧ Ints w.heap.size w'.heap.size w' as_ (cfS N B) ∧ WitIn w.heap.size w'.heap.size w' aw rows ∧ rows.map Rw.l = cfW N B ∧ Ext w w') := by
  replace hN := hN.full
  have hE : Out 0 0 w w := Out.refl _ _ w
  refine enter Try.func29 rfl Try.ntmps29 rfl ?_
  refine wp_seq ?_
  refine rg ?_
  refine sd (d_boxA rfl ?_)
  intro b2 w1 hbb2 hs3 ho2 hb2
  have hz4 := ho2.size
  replace hN := hN.ext ho2
  replace hE := hE.step ho2 (.inl (Nat.le_refl _))
  refine sd (d_allocA zer46 ?_)
  intro b4 w5 hbb4 hs7 ho6 hb4
  have hz8 := ho6.size
  replace hN := hN.ext ho6
  replace hE := hE.step ho6 (.inl (Nat.le_refl _))
  replace hb2 := hb2.ext ho6
  refine st (asI rfl) ?_
  refine st (asI rfl) ?_
  refine rg_end ?_
  refine n_then ?_
  refine wp_seq ?_
  refine rg ?_
  refine st (y_lbN hb2 agg26 rfl) ?_
  refine st (mvI rfl) ?_
  refine sc cl25 (ref17_Feasible_ok N A _ _ B _ hN) rfl ?_
  rintro v13 w9 ⟨at0, ct0, rfl, hT0, ho10⟩
  have hz14 := ho10.size
  replace hN := hN.ext ho10
  replace hE := hE.step ho10 (.inl (Nat.le_refl _))
  replace hb2 := hb2.ext ho10
  replace hb4 := hb4.ext ho10
  refine st (mvT rfl) ?_
  refine st (y_ext rfl rfl) ?_
  refine st (y_ext rfl rfl) ?_
  refine st (y_ext rfl rfl) ?_
  refine st (asS rfl) ?_
  refine st (asI rfl) ?_
  refine st (asI rfl) ?_
  refine rg_end ?_
  refine n_then ?_
  refine wp_seq ?_
  refine wp_seq ?_
  refine rg ?_
  refine st (mvI rfl) ?_
  refine st (y_eql rfl rfl) ?_
  refine rg_end ?_
  refine n_then ?_
  refine cnd rfl (fun hc0 => ?_) (fun hc0 => ?_)
  ·
    try simp only [decide_eq_true_eq, decide_eq_false_iff_not, Bool.not_eq_true', Bool.not_eq_false', Bool.and_eq_true, Bool.or_eq_true, Bool.or_eq_false_iff, Bool.cond_true_right, Bool.cond_false_right, Bool.cond_true_left, Bool.cond_false_left, ne_eq, Decidable.not_not, bne_iff_ne, beq_iff_eq, beq_eq_false_iff_ne, Bool.not_true, Bool.not_false] at hc0
    have e1 := cf_refN hc0
    refine wp_seq ?_
    refine rg ?_
    refine st (y_build (bld46_ _) rfl) ?_
    refine sd0 (d_stN hb4 rfl rfl sz46 rfl rfl ?_)
    intro w15 hs17 ho16 hb4'
    clear hb4; have hb4 := hb4'; clear hb4'
    have hz18 := ho16.size
    replace hN := hN.out ho16 (by first | omega | (simp only [blk_some, hi1_some] at *; omega))
    replace hE := hE.step ho16 (by first | omega | (simp only [blk_some, hi1_some] at *; omega))
    replace hb2 := hb2.out ho16 (by first | omega | (simp only [blk_some, hi1_some] at *; omega))
    replace hT0 := hT0.out ho16 (by first | omega | (simp only [blk_some, hi1_some] at *; omega))
    refine st (asI rfl) ?_
    refine st (asI rfl) ?_
    refine rg_end ?_
    refine n_then ?_
    refine wp_ret ?_
    refine r_then (retC3 (v' := (.int .i64 _)) (v'' := (.int .i64 _)) Try.results29 hb4 agg46 rfl rfl rfl ?_)
    exact ⟨none, 0, none, 0, [], by simp [cfS, cfU, e1], by simp [cfS, e1], by simp [cfS, e1]; exact nilI _ _ _, ⟨nilS, fun r hr => by cases hr⟩, by simp [cfW, e1], hE⟩
  ·
    try simp only [decide_eq_true_eq, decide_eq_false_iff_not, Bool.not_eq_true', Bool.not_eq_false', Bool.and_eq_true, Bool.or_eq_true, Bool.or_eq_false_iff, Bool.cond_true_right, Bool.cond_false_right, Bool.cond_true_left, Bool.cond_false_left, ne_eq, Decidable.not_not, bne_iff_ne, beq_iff_eq, beq_eq_false_iff_ne, Bool.not_true, Bool.not_false] at hc0
    refine wp_skip ?_
    refine n_then ?_
    refine wp_seq ?_
    refine wp_seq ?_
    refine rg ?_
    refine st (mvI rfl) ?_
    refine st (y_neq rfl rfl) ?_
    refine rg_end ?_
    refine n_then ?_
    refine cnd rfl (fun hc1 => ?_) (fun hc1 => ?_)
    ·
      try simp only [decide_eq_true_eq, decide_eq_false_iff_not, Bool.not_eq_true', Bool.not_eq_false', Bool.and_eq_true, Bool.or_eq_true, Bool.or_eq_false_iff, Bool.cond_true_right, Bool.cond_false_right, Bool.cond_true_left, Bool.cond_false_left, ne_eq, Decidable.not_not, bne_iff_ne, beq_iff_eq, beq_eq_false_iff_ne, Bool.not_true, Bool.not_false] at hc1
      have e1 := cf_refE hc0 hc1
      rw [← e1]
      clear e1
      refine wp_seq ?_
      refine rg ?_
      refine st (y_build (bld46_ _) rfl) ?_
      refine st (mvI rfl) ?_
      refine sd0 (d_stN hb4 rfl rfl sz46 rfl rfl ?_)
      intro w19 hs21 ho20 hb4'
      clear hb4; have hb4 := hb4'; clear hb4'
      have hz22 := ho20.size
      replace hN := hN.out ho20 (by first | omega | (simp only [blk_some, hi1_some] at *; omega))
      replace hE := hE.step ho20 (by first | omega | (simp only [blk_some, hi1_some] at *; omega))
      replace hb2 := hb2.out ho20 (by first | omega | (simp only [blk_some, hi1_some] at *; omega))
      refine st (asI rfl) ?_
      refine st (asI rfl) ?_
      refine rg_end ?_
      refine n_then ?_
      refine wp_ret ?_
      refine r_then (retC3 (v' := (.int .i64 _)) (v'' := (.int .i64 _)) Try.results29 hb4 agg46 rfl rfl rfl ?_)
      by_cases hz0 : cfE N B = 0
      · have e2 := cf_refE hc0 hc1
        exact absurd (e2.symm.trans hz0) hc0
      · obtain ⟨n1, n2, n3⟩ : cfS N B = [] ∧ cfW N B = [] ∧ cfU N B = 0 := cf_none hz0
        rw [n1, n2, n3]
        exact ⟨none, 0, none, 0, [], rfl, Nat.le_refl _, nilI _ _ _, ⟨nilS, fun r hr => by cases hr⟩, rfl, hE⟩
    ·
      try simp only [decide_eq_true_eq, decide_eq_false_iff_not, Bool.not_eq_true', Bool.not_eq_false', Bool.and_eq_true, Bool.or_eq_true, Bool.or_eq_false_iff, Bool.cond_true_right, Bool.cond_false_right, Bool.cond_true_left, Bool.cond_false_left, ne_eq, Decidable.not_not, bne_iff_ne, beq_iff_eq, beq_eq_false_iff_ne, Bool.not_true, Bool.not_false] at hc1
      obtain ⟨hok, hB, g1, g2, g3⟩ := cf_refI hc1
      have hnk := netOk_iff.2 hok
      have hac := hok.ac
      have hev := hok.ev
      have hu0 := sfU_rng N B (by omega)
      rw [g3]
      refine wp_skip ?_
      refine n_then ?_
      refine wp_seq ?_
      refine rg ?_
      refine sd (d_allocA zer46 ?_)
      intro b10 w23 hbb10 hs25 ho24 hb10
      have hz26 := ho24.size
      replace hN := hN.ext ho24
      replace hE := hE.step ho24 (.inl (Nat.le_refl _))
      replace hb2 := hb2.ext ho24
      replace hb4 := hb4.ext ho24
      obtain ⟨z1, hz1⟩ : ∃ z, z = w23.heap.size := ⟨_, rfl⟩
      refine rg_end ?_
      refine n_then ?_
      refine wp_seq ?_
      refine rg ?_
      refine st (asS rfl) ?_
      refine rg_end ?_
      refine n_then ?_
      refine wp_seq ?_
      refine wp_seq ?_
      refine rg ?_
      refine st (asI rfl) ?_
      refine rg_end ?_
      refine n_then ?_
      refine wp_block ?_
      refine lp (γ := Nat × List Int × Option Addr × Nat) [11, 12, 31, 32, 33, 34, 35, 36, 37, 38, 39, 40, 41] (fun ⟨k, ls, as_, cs⟩ => [(12, .int .i64 (k : Int)), (11, .slice as_ ls.length cs)]) (fun ⟨k, ls, as_, cs⟩ w_ => Ext w23 w_ ∧ (k : Int) ≤ N.acts.length ∧ ls = upTo 0 k ∧ Ow 3 encI 1 z1 w_.heap.size w_ as_ cs ls) (fun ⟨k, ls, as_, cs⟩ => N.acts.length - k) (0, [], none, 0) ⟨rfl, rfl, trivial⟩ ⟨Out.refl _ _ _, by simp, rfl, Ow.nil (fun _ => rfl)⟩ ?_
      rintro ⟨k, ls, as_, cs⟩ hav_ w27 ⟨ho28, hk, hls, hA⟩
      have hlp0 := ho28
      have hz29 := ho28.size
      replace hN := hN.ext ho28
      replace hE := hE.step ho28 (.inl (Nat.le_refl _))
      replace hb2 := hb2.ext ho28
      replace hb4 := hb4.ext ho28
      replace hb10 := hb10.ext ho28
      refine wp_seq ?_
      refine wp_seq ?_
      refine rg ?_
      refine st (mvI rfl) ?_
      refine st (y_fld fld26_2 rfl) ?_
      refine st (y_lb hb2 na24 rfl rfl) ?_
      refine st (y_len Try.underlying24 rfl) ?_
      refine st (y_lss rfl rfl) ?_
      refine rg_end ?_
      refine n_then ?_
      refine cnd rfl (fun hc2 => ?_) (fun hc2 => ?_)
      ·
        try simp only [decide_eq_true_eq, decide_eq_false_iff_not, Bool.not_eq_true', Bool.not_eq_false', Bool.and_eq_true, Bool.or_eq_true, Bool.or_eq_false_iff, Bool.cond_true_right, Bool.cond_false_right, Bool.cond_true_left, Bool.cond_false_left, ne_eq, Decidable.not_not, bne_iff_ne, beq_iff_eq, beq_eq_false_iff_ne, Bool.not_true, Bool.not_false] at hc2
        have hul := upTo_len 0 k
        rw [← hls] at hul
        refine wp_skip ?_
        refine n_then ?_
        refine wp_seq ?_
        refine wp_block ?_
        refine rg ?_
        refine st (mvS rfl) ?_
        refine st (mvI rfl) ?_
        refine sd (d_bs (bsl22_1 _ _) rfl ?_)
        intro bl33 w30 hbbl33 hs32 ho31 hbl33
        have hz34 := ho31.size
        replace hN := hN.ext ho31
        replace hE := hE.step ho31 (.inl (Nat.le_refl _))
        replace hb2 := hb2.ext ho31
        replace hb4 := hb4.ext ho31
        replace hb10 := hb10.ext ho31
        replace hA := hA.ext ho31
        replace hlp0 := hlp0.step ho31 (.inl (Nat.le_refl _))
        have hrhA := hA.rng
        refine sd (d_app (xs := [(k : Int)]) hA sl22 infoz3 (by decide) rfl rfl rfl rfl (hbl33) (fun _ => rfl) (by simp; unfold maxLen; omega) (by simp; omega) (by omega) (by omega) ?_)
        intro as1 cs1 w35 ho36 hA'
        have hs37 := ho36.size
        clear hA; have hA := hA'; clear hA'
        have hz40 := ho36.size
        replace hN := hN.out ho36 (by first | omega | (simp only [blk_some, hi1_some] at *; omega))
        replace hE := hE.step ho36 (by first | omega | (simp only [blk_some, hi1_some] at *; omega))
        replace hb2 := hb2.out ho36 (by first | omega | (simp only [blk_some, hi1_some] at *; omega))
        replace hb4 := hb4.out ho36 (by first | omega | (simp only [blk_some, hi1_some] at *; omega))
        replace hb10 := hb10.out ho36 (by first | omega | (simp only [blk_some, hi1_some] at *; omega))
        replace hlp0 := hlp0.step ho36 (by first | omega | (simp only [blk_some, hi1_some] at *; omega))
        refine st (asS rfl) ?_
        refine rg_end ?_
        refine n_blk ?_
        refine n_then ?_
        refine rg ?_
        refine st (mvI rfl) ?_
        refine st (y_add rfl rfl (by omega)) ?_
        refine st (asI rfl) ?_
        refine rg_end ?_
        exact n_then ⟨(k + 1, _, _, _), _, rfl, same_lk rfl (same_h0), ⟨rfl, rfl, trivial⟩, ⟨hlp0, by omega, by rw [upTo_snoc (Nat.zero_le _), hls], hA.wide (by omega)⟩, by first | omega | (dsimp only; omega)⟩
      ·
        try simp only [decide_eq_true_eq, decide_eq_false_iff_not, Bool.not_eq_true', Bool.not_eq_false', Bool.and_eq_true, Bool.or_eq_true, Bool.or_eq_false_iff, Bool.cond_true_right, Bool.cond_false_right, Bool.cond_true_left, Bool.cond_false_left, ne_eq, Decidable.not_not, bne_iff_ne, beq_iff_eq, beq_eq_false_iff_ne, Bool.not_true, Bool.not_false] at hc2
        have hkn : k = N.acts.length := by omega
        subst hkn
        obtain rfl : ls = setB (List.replicate N.acts.length true) := by rw [setB_all, hls]
        have hr0 : runTo N B 0 = some ⟨B - sfU N B, sfU N B, List.replicate N.acts.length true, []⟩ := rfl
        refine wp_exit ?_
        refine e_then (e_then (e_blk (?_)))
        refine n_then ?_
        refine wp_seq ?_
        refine wp_seq ?_
        refine rg ?_
        refine st (asI rfl) ?_
        refine rg_end ?_
        refine n_then ?_
        refine wp_block ?_
        obtain ⟨z2, hz2⟩ : ∃ z, z = w27.heap.size := ⟨_, rfl⟩
        have hAr0 := hA.rng
        refine lp (γ := Nat × FS × List Rw × Option Addr × Nat × Option Addr × Nat) [5, 6, 8, 11, 13, 14, 15, 16, 42, 43, 44, 45, 46, 47, 48, 49, 50, 51, 52, 53, 54, 55, 56, 57, 58, 59, 60, 61, 62, 63, 64, 65, 66, 67, 68, 69, 70, 71, 72, 73, 74, 75, 76, 77, 78, 79, 80, 81, 82, 83, 84] (fun ⟨k, s, rows, aw, cw, as_, cs⟩ => [(13, .int .i64 (s.wit.length : Int)), (8, .int .i64 s.used), (11, .slice as_ (setB s.b).length cs)]) (fun ⟨k, s, rows, aw, cw, as_, cs⟩ w_ => Out b10 (b10 + 1) w27 w_ ∧ (k : Int) ≤ N.acts.length ∧ runTo N B k = some s ∧ rows.map Rw.l = s.wit ∧ Blk w_ b10 [.slice none 0 0, .slice aw rows.length cw] ∧ Ow 3 encI 1 z1 w_.heap.size w_ as_ cs (setB s.b) ∧ Ow 22 encRw 1 z2 w_.heap.size w_ aw cw rows ∧ WRows z2 w_.heap.size w_ aw rows ∧ (hi1 as_ ≤ blk aw ∨ hi1 aw ≤ blk as_)) (fun ⟨k, s, rows, aw, cw, as_, cs⟩ => N.acts.length - k) (0, ⟨B - sfU N B, sfU N B, List.replicate N.acts.length true, []⟩, [], none, 0, as_, cs) ⟨rfl, rfl, rfl, trivial⟩ ⟨Out.refl _ _ _, by simp, hr0, rfl, hb10, hA.wide (by omega), Ow.nil (fun _ => rfl), ⟨fun r hr => by cases hr⟩, .inr (Nat.zero_le _)⟩ ?_
        rintro ⟨k, s, rows, aw, cw, as_, cs⟩ hav_ w41 ⟨ho42, hk, hrun, hrw, hb10, hA, hW, hR, hdj⟩
        have hlp1 := ho42
        have hz43 := ho42.size
        replace hN := hN.out ho42 (by first | omega | (simp only [blk_some, hi1_some] at *; omega))
        replace hE := hE.step ho42 (by first | omega | (simp only [blk_some, hi1_some] at *; omega))
        replace hb2 := hb2.out ho42 (by first | omega | (simp only [blk_some, hi1_some] at *; omega))
        replace hb4 := hb4.out ho42 (by first | omega | (simp only [blk_some, hi1_some] at *; omega))
        refine wp_seq ?_
        refine wp_seq ?_
        refine rg ?_
        refine st (mvI rfl) ?_
        refine st (mvS rfl) ?_
        refine st (y_len Try.underlying22 rfl) ?_
        refine st (y_lss rfl rfl) ?_
        refine rg_end ?_
        refine n_then ?_
        refine cnd rfl (fun hc3 => ?_) (fun hc3 => ?_)
        ·
          try simp only [decide_eq_true_eq, decide_eq_false_iff_not, Bool.not_eq_true', Bool.not_eq_false', Bool.and_eq_true, Bool.or_eq_true, Bool.or_eq_false_iff, Bool.cond_true_right, Bool.cond_false_right, Bool.cond_true_left, Bool.cond_false_left, ne_eq, Decidable.not_not, bne_iff_ne, beq_iff_eq, beq_eq_false_iff_ne, Bool.not_true, Bool.not_false] at hc3
          have hri := run_ri (by omega) k s (by omega) hrun
          have hlS := hri.lenS (by omega)
          have hkn : k < N.acts.length := by omega
          have hrl := congrArg List.length hrw
          rw [List.length_map] at hrl
          have hsum := hri.sum
          have hl0 := hri.l0
          have hu1 := hri.u0
          have hout := hri.out hkn
          have hsl := setB_len (s.b.set k false)
          rw [List.length_set, hri.len] at hsl
          have hsl2 := setB_len s.b
          rw [hri.len] at hsl2
          have hsm : ∀ a ∈ setB (s.b.set k false), 0 ≤ a ∧ a < N.acts.length := fun a ha => by have := setB_mem a ha; rw [List.length_set, hri.len] at this; omega
          have hMok : NetOk (subN N (setB (s.b.set k false))) := sub_okS hok (by omega) hsm
          have hcap := hA.lenLe
          refine wp_skip ?_
          refine n_then ?_
          refine wp_block ?_
          refine wp_seq ?_
          refine wp_seq ?_
          refine rg ?_
          refine st (mvI rfl) ?_
          refine st (mvI rfl) ?_
          refine st (y_sub rfl rfl (by omega)) ?_
          refine st (y_lss rfl rfl) ?_
          refine rg_end ?_
          refine n_then ?_
          refine cnd rfl (fun hc4 => ?_) (fun hc4 => ?_)
          ·
            try simp only [decide_eq_true_eq, decide_eq_false_iff_not, Bool.not_eq_true', Bool.not_eq_false', Bool.and_eq_true, Bool.or_eq_true, Bool.or_eq_false_iff, Bool.cond_true_right, Bool.cond_false_right, Bool.cond_true_left, Bool.cond_false_left, ne_eq, Decidable.not_not, bne_iff_ne, beq_iff_eq, beq_eq_false_iff_ne, Bool.not_true, Bool.not_false] at hc4
            have hz0 : s.left = 0 := by omega
            have e1 := cfN hnk hB g1 g2 (k := k + 1) (by omega) (run_none hrun (by rw [hz0]; exact sf_z))
            refine wp_seq ?_
            refine rg ?_
            refine st (y_build (bld46_ _) rfl) ?_
            refine sd0 (d_stN hb4 rfl rfl sz46 rfl rfl ?_)
            intro w44 hs46 ho45 hb4'
            clear hb4; have hb4 := hb4'; clear hb4'
            have hz47 := ho45.size
            replace hN := hN.out ho45 (by first | omega | (simp only [blk_some, hi1_some] at *; omega))
            replace hE := hE.step ho45 (by first | omega | (simp only [blk_some, hi1_some] at *; omega))
            replace hb2 := hb2.out ho45 (by first | omega | (simp only [blk_some, hi1_some] at *; omega))
            replace hb10 := hb10.out ho45 (by first | omega | (simp only [blk_some, hi1_some] at *; omega))
            have hrnhA := hA.rng
            replace hA := hA.out ho45 (by first | omega | (simp only [blk_some, hi1_some] at *; omega))
            have hrnhW := hW.rng
            replace hW := hW.out ho45 (by first | omega | (simp only [blk_some, hi1_some] at *; omega))
            replace hR := hR.out ho45 (by first | omega | (simp only [blk_some, hi1_some] at *; omega))
            refine st (asI rfl) ?_
            refine st (asI rfl) ?_
            refine rg_end ?_
            refine n_then ?_
            refine wp_ret ?_
            refine r_then (r_blk (r_then (r_blk (r_then (retC3 (v' := (.int .i64 _)) (v'' := (.int .i64 _)) Try.results29 hb4 agg46 rfl rfl rfl ?_)))))
            exact ⟨none, 0, none, 0, [], by simp [cfS, cfU, e1], by simp [cfS, e1], by simp [cfS, e1]; exact nilI _ _ _, ⟨nilS, fun r hr => by cases hr⟩, by simp [cfW, e1], hE⟩
          ·
            try simp only [decide_eq_true_eq, decide_eq_false_iff_not, Bool.not_eq_true', Bool.not_eq_false', Bool.and_eq_true, Bool.or_eq_true, Bool.or_eq_false_iff, Bool.cond_true_right, Bool.cond_false_right, Bool.cond_true_left, Bool.cond_false_left, ne_eq, Decidable.not_not, bne_iff_ne, beq_iff_eq, beq_eq_false_iff_ne, Bool.not_true, Bool.not_false] at hc4
            have hleft : B - s.used = s.left := by omega
            refine wp_skip ?_
            refine n_then ?_
            refine wp_seq ?_
            refine rgD 15 (fun w_ => Ext w41 w_) (fun i => Nat.beq i 3 || Nat.beq i 4 || Nat.beq i 8) mixed (by kernel_rfl) ?_
            intro w48 ho49 hs50
            refine ⟨ho49, ?_⟩
            have hx51 := ho49
            refine tn rfl (fun _ hG => y_lbN (hb2.ext hG) agg26 rfl) ?_
            refine tn rfl (fun _ hG => mvS rfl) ?_
            refine tn rfl (fun _ hG => mvI rfl) ?_
            refine tc rfl cl24 (ref17_Without_ok (setB s.b) _ _ _ _ s.wit.length _ (Ow.sl (hA.ext hx51)) hcap (by omega) (by omega)) rfl ?_
            rintro v56 w52 ⟨ax, cx, rfl, hcx, hX, ho53⟩
            rw [← hout] at hX hcx ⊢
            have hx57 := hx51.step ho53 (.inl (Nat.le_refl _))
            have hz58 := ho53.size
            refine ⟨hx57, ?_⟩
            refine tc rfl cl46 (ref17_subset_ok N A _ _ (setB (s.b.set k false)) _ _ _ _ _ (hN.ext hx57) (Ow.sl hX) hok.ev (by omega) hsm) rfl ?_
            rintro v63 w59 ⟨A2, rfl, he2, ha2, ho60⟩
            have hM : NetIn _ _ _ (subN N (setB (s.b.set k false))) A2 := ⟨Ow.sl he2, Ow.sl ha2⟩
            clear he2 ha2
            have hx64 := hx57.step ho60 (.inl (Nat.le_refl _))
            have hz65 := ho60.size
            replace hX := hX.ext ho60
            refine ⟨hx64, ?_⟩
            refine tn rfl (fun _ hG => mvI rfl) ?_
            refine tn rfl (fun _ hG => mvI rfl) ?_
            refine tn rfl (fun _ hG => y_sub rfl rfl (by omega)) ?_
            refine tc rfl cl25 (ref17_Feasible_ok (subN N (setB (s.b.set k false))) A2 _ _ (B - s.used) _ hM) rfl ?_
            rintro v70 w66 ⟨at1, ct1, rfl, hT1, ho67⟩
            rw [hleft] at hT1 ⊢
            have hx71 := hx64.step ho67 (.inl (Nat.le_refl _))
            have hz72 := ho67.size
            replace hM := hM.ext ho67
            replace hX := hX.ext ho67
            refine ⟨hx71, ?_⟩
            refine tn rfl (fun _ hG => mvT rfl) ?_
            refine tn rfl (fun _ hG => y_ext rfl rfl) ?_
            refine tn rfl (fun _ hG => y_ext rfl rfl) ?_
            refine tn rfl (fun _ hG => y_ext rfl rfl) ?_
            refine tn rfl (fun _ hG => asS rfl) ?_
            refine tn rfl (fun _ hG => asI rfl) ?_
            refine t_end ?_
            have hz73 := hx71.size
            replace hN := hN.ext hx71
            replace hE := hE.step hx71 (.inl (Nat.le_refl _))
            replace hb2 := hb2.ext hx71
            replace hb4 := hb4.ext hx71
            replace hb10 := hb10.ext hx71
            replace hA := hA.ext hx71
            replace hW := hW.ext hx71
            replace hR := hR.ext hx71
            replace hlp1 := hlp1.step hx71 (.inl (Nat.le_refl _))
            refine st (asI rfl) ?_
            refine rg_end ?_
            refine n_then ?_
            refine wp_seq ?_
            refine wp_seq ?_
            refine rg ?_
            refine st (mvI rfl) ?_
            refine rg_end ?_
            refine n_then ?_
            refine wp_block ?_
            refine wp_seq ?_
            refine rg ?_
            refine st (y_eql rfl rfl) ?_
            refine st (asB rfl) ?_
            refine rg_end ?_
            refine n_then ?_
            refine cnd rfl (fun hc5 => ?_) (fun hc5 => ?_)
            ·
              try simp only [decide_eq_true_eq, decide_eq_false_iff_not, Bool.not_eq_true', Bool.not_eq_false', Bool.and_eq_true, Bool.or_eq_true, Bool.or_eq_false_iff, Bool.cond_true_right, Bool.cond_false_right, Bool.cond_true_left, Bool.cond_false_left, ne_eq, Decidable.not_not, bne_iff_ne, beq_iff_eq, beq_eq_false_iff_ne, Bool.not_true, Bool.not_false] at hc5
              obtain ⟨j1, j2, j3, j4⟩ := sf_ok (by omega) hc5
              have hfu := sfU_rng (subN N (setB (s.b.set k false))) s.left hl0
              have hrun1 := run_T hrun j1 j2
              have hrw1 : (rows ++ [(⟨at1, ct1, findT (subN N (setB (s.b.set k false))) false s.left⟩ : Rw)]).map Rw.l = s.wit ++ [sfT (subN N (setB (s.b.set k false))) s.left] := by simp [hrw, j3]
              refine wp_seq ?_
              refine rg ?_
              refine st (y_fld fld46_1 rfl) ?_
              refine st (y_lb hb10 na44 rfl rfl) ?_
              refine st (mvS rfl) ?_
              refine sd (d_bs (bsl44_1 _ _ _ _) rfl ?_)
              intro bl77 w74 hbbl77 hs76 ho75 hbl77
              have hz78 := ho75.size
              replace hN := hN.ext ho75
              replace hE := hE.step ho75 (.inl (Nat.le_refl _))
              replace hb2 := hb2.ext ho75
              replace hb4 := hb4.ext ho75
              replace hb10 := hb10.ext ho75
              replace hA := hA.ext ho75
              replace hW := hW.ext ho75
              replace hR := hR.ext ho75
              replace hlp1 := hlp1.step ho75 (.inl (Nat.le_refl _))
              replace hM := hM.ext ho75
              replace hT1 := hT1.ext ho75
              have hT0 := hT1
              have hR0 := hR.wide (hi' := w74.heap.size) (by omega)
              have hWr := hW.rng
              have hAr := hA.rng
              have hrhW := hW.rng
              refine sd (d_appA (xs := [(⟨at1, ct1, findT (subN N (setB (s.b.set k false))) false s.left⟩ : Rw)]) hW sl44 infoz22 (by decide) rfl rfl rfl rfl (hbl77) (fun _ => rfl) (by simp; unfold maxLen; omega) (by simp; omega) (by omega) (by omega) ?_)
              intro aw1 cw1 w79 hat hoA hW'
              have hs80 := hoA.size
              clear hW; have hW := hW'; clear hW'
              have hz83 := hoA.size
              replace hN := hN.out hoA (by first | omega | (simp only [blk_some, hi1_some] at *; omega))
              replace hE := hE.step hoA (by first | omega | (simp only [blk_some, hi1_some] at *; omega))
              replace hb2 := hb2.out hoA (by first | omega | (simp only [blk_some, hi1_some] at *; omega))
              replace hb4 := hb4.out hoA (by first | omega | (simp only [blk_some, hi1_some] at *; omega))
              replace hb10 := hb10.out hoA (by first | omega | (simp only [blk_some, hi1_some] at *; omega))
              have hrnhA := hA.rng
              replace hA := hA.out hoA (by first | omega | (simp only [blk_some, hi1_some] at *; omega))
              replace hlp1 := hlp1.step hoA (by first | omega | (simp only [blk_some, hi1_some] at *; omega))
              replace hM := hM.out hoA (by first | omega | (simp only [blk_some, hi1_some] at *; omega))
              replace hT1 := hT1.out hoA (by first | omega | (simp only [blk_some, hi1_some] at *; omega))
              have hR1 := hR0.app (r := (⟨at1, ct1, findT (subN N (setB (s.b.set k false))) false s.left⟩ : Rw)) hT0 (by omega) (by omega) (by omega) hoA (Nat.le_refl _) hat
              refine st (y_fld fld46_1 rfl) ?_
              refine sd0 (d_st hb10 sz44 rfl rfl rfl (Nat.le_of_ble_eq_true rfl) ?_)
              intro w84 hs86 ho85 hb10'
              clear hb10; have hb10 := hb10'; clear hb10'
              have hz87 := ho85.size
              replace hN := hN.out ho85 (by first | omega | (simp only [blk_some, hi1_some] at *; omega))
              replace hE := hE.step ho85 (by first | omega | (simp only [blk_some, hi1_some] at *; omega))
              replace hb2 := hb2.out ho85 (by first | omega | (simp only [blk_some, hi1_some] at *; omega))
              replace hb4 := hb4.out ho85 (by first | omega | (simp only [blk_some, hi1_some] at *; omega))
              replace hA := hA.out ho85 (by first | omega | (simp only [blk_some, hi1_some] at *; omega))
              replace hlp1 := hlp1.step ho85 (by first | omega | (simp only [blk_some, hi1_some] at *; omega))
              replace hM := hM.out ho85 (by first | omega | (simp only [blk_some, hi1_some] at *; omega))
              replace hT1 := hT1.out ho85 (by first | omega | (simp only [blk_some, hi1_some] at *; omega))
              have hrnhW := hW.rng
              replace hW := hW.out ho85 (by first | omega | (simp only [blk_some, hi1_some] at *; omega))
              replace hR1 := hR1.out ho85 (by first | omega | (simp only [blk_some, hi1_some] at *; omega))
              refine rg_end ?_
              refine n_then ?_
              refine rg ?_
              refine st (mvI rfl) ?_
              refine st (y_add rfl rfl (by omega)) ?_
              refine st (asI rfl) ?_
              refine rg_end ?_
              refine n_blk ?_
              refine n_then ?_
              refine rg ?_
              refine st (mvI rfl) ?_
              refine st (mvI rfl) ?_
              refine st (y_add rfl rfl (by omega)) ?_
              refine st (asI rfl) ?_
              refine rg_end ?_
              refine n_blk ?_
              exact n_then ⟨(k + 1, _, _, _, _, _, _), _, rfl, same_lk rfl (same_h0), ⟨by first | rfl | exact vi (by simp), by first | rfl | exact vi (by rw [j4]), by rfl, trivial⟩, ⟨hlp1, by omega, hrun1, hrw1, hb10, hA.wide (by omega), hW.wide (by omega), hR1.wide (by omega), by first | omega | (dsimp only; omega)⟩, by first | omega | (dsimp only; omega)⟩
            ·
              try simp only [decide_eq_true_eq, decide_eq_false_iff_not, Bool.not_eq_true', Bool.not_eq_false', Bool.and_eq_true, Bool.or_eq_true, Bool.or_eq_false_iff, Bool.cond_true_right, Bool.cond_false_right, Bool.cond_true_left, Bool.cond_false_left, ne_eq, Decidable.not_not, bne_iff_ne, beq_iff_eq, beq_eq_false_iff_ne, Bool.not_true, Bool.not_false] at hc5
              refine wp_seq ?_
              refine rg ?_
              refine st (y_eql rfl rfl) ?_
              refine st (asB rfl) ?_
              refine rg_end ?_
              refine n_then ?_
              refine cnd rfl (fun hc6 => ?_) (fun hc6 => ?_)
              ·
                try simp only [decide_eq_true_eq, decide_eq_false_iff_not, Bool.not_eq_true', Bool.not_eq_false', Bool.and_eq_true, Bool.or_eq_true, Bool.or_eq_false_iff, Bool.cond_true_right, Bool.cond_false_right, Bool.cond_true_left, Bool.cond_false_left, ne_eq, Decidable.not_not, bne_iff_ne, beq_iff_eq, beq_eq_false_iff_ne, Bool.not_true, Bool.not_false] at hc6
                obtain ⟨j1, j2, j4⟩ := sf_no (by omega) hc6
                have hfu := sfU_rng (subN N (setB (s.b.set k false))) s.left hl0
                have hrun1 := run_F hrun j1 j2
                have hrw1 := hrw
                have hR1 := hR
                have hA1r := hA.rng
                refine rg ?_
                refine st (mvS rfl) ?_
                refine st (mvI rfl) ?_
                refine sc cl24 (ref17_Without_ok (setB s.b) _ _ _ _ s.wit.length _ (Ow.sl hA) hcap (by omega) (by omega)) rfl ?_
                rintro v92 w88 ⟨ay, cy, rfl, hcy, hA2, ho89⟩
                rw [← hout] at hA2 hcy ⊢
                clear hA
                have hA := hA2.lower (lo' := z1) (by omega)
                have hA2r := hA2.rng
                clear hA2
                have hWr2 := hW.rng
                have hz93 := ho89.size
                replace hN := hN.ext ho89
                replace hE := hE.step ho89 (.inl (Nat.le_refl _))
                replace hb2 := hb2.ext ho89
                replace hb4 := hb4.ext ho89
                replace hb10 := hb10.ext ho89
                replace hW := hW.ext ho89
                replace hlp1 := hlp1.step ho89 (.inl (Nat.le_refl _))
                replace hM := hM.ext ho89
                replace hT1 := hT1.ext ho89
                replace hR1 := hR1.ext ho89
                refine st (asS rfl) ?_
                refine rg_end ?_
                refine n_blk ?_
                refine n_then ?_
                refine rg ?_
                refine st (mvI rfl) ?_
                refine st (mvI rfl) ?_
                refine st (y_add rfl rfl (by omega)) ?_
                refine st (asI rfl) ?_
                refine rg_end ?_
                refine n_blk ?_
                exact n_then ⟨(k + 1, _, _, _, _, _, _), _, rfl, same_lk rfl (same_h0), ⟨by first | rfl | exact vi (by simp), by first | rfl | exact vi (by rw [j4]), by rfl, trivial⟩, ⟨hlp1, by omega, hrun1, hrw1, hb10, hA.wide (by omega), hW.wide (by omega), hR1.wide (by omega), by first | omega | (dsimp only; omega)⟩, by first | omega | (dsimp only; omega)⟩
              ·
                try simp only [decide_eq_true_eq, decide_eq_false_iff_not, Bool.not_eq_true', Bool.not_eq_false', Bool.and_eq_true, Bool.or_eq_true, Bool.or_eq_false_iff, Bool.cond_true_right, Bool.cond_false_right, Bool.cond_true_left, Bool.cond_false_left, ne_eq, Decidable.not_not, bne_iff_ne, beq_iff_eq, beq_eq_false_iff_ne, Bool.not_true, Bool.not_false] at hc6
                have h15 : findE (subN N (setB (s.b.set k false))) false s.left = 15 := by have := findE_rng hMok (L := s.left) (by omega) (by omega); omega
                have e1 := cfN hnk hB g1 g2 (k := k + 1) (by omega) (run_none hrun (sf_15 h15))
                refine wp_seq ?_
                refine rg ?_
                refine st (y_build (bld46_ _) rfl) ?_
                refine st (mvI rfl) ?_
                refine sd0 (d_stN hb4 rfl rfl sz46 rfl rfl ?_)
                intro w94 hs96 ho95 hb4'
                clear hb4; have hb4 := hb4'; clear hb4'
                have hz97 := ho95.size
                replace hN := hN.out ho95 (by first | omega | (simp only [blk_some, hi1_some] at *; omega))
                replace hE := hE.step ho95 (by first | omega | (simp only [blk_some, hi1_some] at *; omega))
                replace hb2 := hb2.out ho95 (by first | omega | (simp only [blk_some, hi1_some] at *; omega))
                replace hb10 := hb10.out ho95 (by first | omega | (simp only [blk_some, hi1_some] at *; omega))
                have hrnhA := hA.rng
                replace hA := hA.out ho95 (by first | omega | (simp only [blk_some, hi1_some] at *; omega))
                have hrnhW := hW.rng
                replace hW := hW.out ho95 (by first | omega | (simp only [blk_some, hi1_some] at *; omega))
                replace hR := hR.out ho95 (by first | omega | (simp only [blk_some, hi1_some] at *; omega))
                have hrnhX := hX.rng
                replace hX := hX.out ho95 (by first | omega | (simp only [blk_some, hi1_some] at *; omega))
                replace hM := hM.out ho95 (by first | omega | (simp only [blk_some, hi1_some] at *; omega))
                replace hT1 := hT1.out ho95 (by first | omega | (simp only [blk_some, hi1_some] at *; omega))
                refine st (asI rfl) ?_
                refine st (asI rfl) ?_
                refine rg_end ?_
                refine n_then ?_
                refine wp_ret ?_
                refine r_blk (r_then (r_blk (r_then (r_blk (r_then (retC3 (v' := (.int .i64 _)) (v'' := (.int .i64 _)) Try.results29 hb4 agg46 rfl rfl rfl ?_))))))
                rw [h15]
                exact ⟨none, 0, none, 0, [], by simp [cfS, cfU, e1], by simp [cfS, e1], by simp [cfS, e1]; exact nilI _ _ _, ⟨nilS, fun r hr => by cases hr⟩, by simp [cfW, e1], hE⟩
        ·
          try simp only [decide_eq_true_eq, decide_eq_false_iff_not, Bool.not_eq_true', Bool.not_eq_false', Bool.and_eq_true, Bool.or_eq_true, Bool.or_eq_false_iff, Bool.cond_true_right, Bool.cond_false_right, Bool.cond_true_left, Bool.cond_false_left, ne_eq, Decidable.not_not, bne_iff_ne, beq_iff_eq, beq_eq_false_iff_ne, Bool.not_true, Bool.not_false] at hc3
          have hri := run_ri (by omega) k s (by omega) hrun
          have hlS := hri.lenS (by omega)
          have hkn : k = N.acts.length := by omega
          subst hkn
          obtain ⟨f0, f1, f2, f3⟩ := cf0 hnk hB g1 g2 hrun
          refine wp_exit ?_
          refine e_then (e_then (e_blk (?_)))
          refine n_then ?_
          refine wp_seq ?_
          refine rg ?_
          refine st (mvS rfl) ?_
          refine st (y_fld fld46_0 rfl) ?_
          refine sd0 (d_st hb10 sz22 rfl rfl rfl (Nat.le_of_ble_eq_true rfl) ?_)
          intro w98 hs100 ho99 hb10'
          clear hb10; have hb10 := hb10'; clear hb10'
          have hz101 := ho99.size
          replace hN := hN.out ho99 (by first | omega | (simp only [blk_some, hi1_some] at *; omega))
          replace hE := hE.step ho99 (by first | omega | (simp only [blk_some, hi1_some] at *; omega))
          replace hb2 := hb2.out ho99 (by first | omega | (simp only [blk_some, hi1_some] at *; omega))
          replace hb4 := hb4.out ho99 (by first | omega | (simp only [blk_some, hi1_some] at *; omega))
          have hrnhA := hA.rng
          replace hA := hA.out ho99 (by first | omega | (simp only [blk_some, hi1_some] at *; omega))
          have hrnhW := hW.rng
          replace hW := hW.out ho99 (by first | omega | (simp only [blk_some, hi1_some] at *; omega))
          replace hR := hR.out ho99 (by first | omega | (simp only [blk_some, hi1_some] at *; omega))
          refine rg_end ?_
          refine n_then ?_
          refine wp_seq ?_
          refine rg ?_
          refine st (y_lbN hb10 agg46 rfl) ?_
          refine st (mvI rfl) ?_
          refine sd0 (d_stN hb4 rfl rfl sz46 rfl rfl ?_)
          intro w102 hs104 ho103 hb4'
          clear hb4; have hb4 := hb4'; clear hb4'
          have hz105 := ho103.size
          replace hN := hN.out ho103 (by first | omega | (simp only [blk_some, hi1_some] at *; omega))
          replace hE := hE.step ho103 (by first | omega | (simp only [blk_some, hi1_some] at *; omega))
          replace hb2 := hb2.out ho103 (by first | omega | (simp only [blk_some, hi1_some] at *; omega))
          replace hb10 := hb10.out ho103 (by first | omega | (simp only [blk_some, hi1_some] at *; omega))
          replace hA := hA.out ho103 (by first | omega | (simp only [blk_some, hi1_some] at *; omega))
          replace hW := hW.out ho103 (by first | omega | (simp only [blk_some, hi1_some] at *; omega))
          replace hR := hR.out ho103 (by first | omega | (simp only [blk_some, hi1_some] at *; omega))
          refine st (asI rfl) ?_
          refine st (asI rfl) ?_
          refine rg_end ?_
          refine n_then ?_
          refine wp_ret ?_
          refine retC3 (v' := (.int .i64 _)) (v'' := (.int .i64 _)) Try.results29 hb4 agg46 rfl rfl rfl ?_
          exact ⟨as_, cs, aw, cw, rows, by rw [f0, f1, f3]; rfl, by rw [f1]; exact hA.lenLe, by rw [f1]; exact Sl.wide (Ow.sl hA) (by omega) (by omega), hR.wit (by omega) (by omega) (Sl.wide (Ow.sl hW) (by omega) (by omega)), by rw [f2]; exact hrw, hE⟩
end Go.Proofs.Ytclligkngjhihaa
