/-
  Walks of the functions, printed by a program out of the code and the loops' relations.
-/
import Derived.Test.YtclligkngjhihaaWkG
import Derived.Test.YtclligkngjhihaaProg
import Derived.KernelRfl
import Derived.Test.YtclligkngjhihaaH8
namespace Go.Proofs.Ytclligkngjhihaa
open Go.Wk Go.RowKit
set_option linter.unusedVariables false
set_option linter.unusedSimpArgs false
theorem cl22 : Callable Try.prog 22 := ⟨Try.call22⟩
theorem cl46 : Callable Try.prog 46 := ⟨Try.call46⟩

set_option maxHeartbeats 1000000 in
set_option maxRecDepth 100000 in
theorem ref17_subset_ok (N : Net) (A : NetA) (lo hi : Nat) (s : List Int) (as_ : Option Addr) (cs ls hs : Nat) (w : World) (hN : NetIn lo hi w N A) (hS : Ints ls hs w as_ s) (hev : (N.evs.length : Int) ≤ 48) (hsl : (s.length : Int) ≤ 1000) (hset : ∀ a ∈ s, 0 ≤ a ∧ a < N.acts.length) : Cal Try.prog 46 [netV N A, .slice as_ s.length cs] w (fun v w' => ∃ A', v = netV (subN N s) A' ∧ Ow 34 encEv 3 w.heap.size w'.heap.size w' A'.ae A'.ce N.evs ∧ Ow 36 encAc 6 w.heap.size w'.heap.size w' A'.aa A'.ca (s.map (el N.acts)) ∧ Ext w w') := by
  replace hN := hN.full
  replace hS := Ints.full hS
  have hE : Out 0 0 w w := Out.refl _ _ w
  refine enter Try.func46 rfl Try.ntmps46 rfl ?_
  refine wp_seq ?_
  refine rg ?_
  refine sd (d_boxA rfl ?_)
  intro b2 w1 hbb2 hs3 ho2 hb2
  have hz4 := ho2.size
  replace hN := hN.ext ho2
  replace hS := hS.ext ho2
  replace hE := hE.step ho2 (.inl (Nat.le_refl _))
  refine sd (d_allocA zer26 ?_)
  intro b4 w5 hbb4 hs7 ho6 hb4
  have hz8 := ho6.size
  replace hN := hN.ext ho6
  replace hS := hS.ext ho6
  replace hE := hE.step ho6 (.inl (Nat.le_refl _))
  replace hb2 := hb2.ext ho6
  refine rg_end ?_
  refine n_then ?_
  refine cut (γ := Nat × Option Addr × Nat) [5, 7, 8, 9, 10, 11, 12] (fun ⟨bp, ae, ce⟩ => [(5, .pointer (some ⟨bp, 0, none⟩))]) (fun ⟨bp, ae, ce⟩ w_ => Ext w5 w_ ∧ Blk w_ bp [.int .i64 N.p, .slice ae N.evs.length ce, .slice none 0 0] ∧ Ow 34 encEv 3 (b4 + 1) w_.heap.size w_ ae ce N.evs ∧ b4 + 1 ≤ bp ∧ bp < w_.heap.size ∧ (bp < blk ae ∨ hi1 ae ≤ bp)) ?_ ?_
  ·
    have hcut := Out.refl 0 0 w5
    refine rgP 7 (fun w_ => Ext w5 w_) (fun i => Nat.beq i 4 || Nat.beq i 6) (.step 0 (.step 1 (.step 2 (.step 3 (.fork 4 (.step 5 (.step 6 (.done))) (.fork 6 (.step 4 (.step 5 (.done))) (.last))))))) mixed (by kernel_rfl) ?_
    intro w9 ho10 hs11
    refine ⟨ho10, ?_⟩
    have hx12 := ho10
    refine p_step rfl ?_
    refine tn rfl (fun _ hG => y_fld fld26_0 rfl) ?_
    refine t_end ?_
    refine p_step rfl ?_
    refine tn rfl (fun _ hG => y_lb (hb2.ext hG) na3 rfl rfl) ?_
    refine t_end ?_
    refine p_step rfl ?_
    refine tn rfl (fun _ hG => y_fld fld26_1 rfl) ?_
    refine t_end ?_
    refine p_step rfl ?_
    refine tn rfl (fun _ hG => y_lb (hb2.ext hG) na23 rfl rfl) ?_
    refine t_end ?_
    refine p_fork ?_ ?_
    ·
      refine p_step rfl ?_
      have he := Ow.nil (E := 34) (sz := 3) (enc := encEv) (lo := w9.heap.size) (hi := 0) (w := w9) (fun _ => rfl)
      have hrhe := he.rng
      refine td rfl (d_appN (xs := N.evs) he sl23 infoz34 (by decide) rfl rfl rfl (rfl) ((hN.e.ext hx12)) (fun _ => rfl) (by simp; unfold maxLen; omega) (by simp; omega) (by omega) (by omega) ?_)
      intro ae ce w13 ho14 he'
      have hs15 := ho14.size
      clear he; have he := he'; clear he'
      replace ho14 : Ext _ _ := ho14
      have hx18 := hx12.step ho14 (.inl (Nat.le_refl _))
      have hz19 := ho14.size
      refine ⟨hx18, ?_⟩
      refine t_end ?_
      refine p_step rfl ?_
      refine tn rfl (fun _ hG => y_build (bld26_0_1 _ _ _ _ _) rfl) ?_
      refine t_end ?_
      refine p_step rfl ?_
      refine td rfl (d_allocA zer26 ?_)
      intro bq w20 hbbq hs22 ho21 hbq
      have hx23 := hx18.step ho21 (.inl (Nat.le_refl _))
      have hz24 := ho21.size
      replace he := he.ext ho21
      refine ⟨hx23, ?_⟩
      refine t_end ?_
      refine p_done ?_
      have hz25 := hx23.size
      replace hN := hN.ext hx23
      replace hS := hS.ext hx23
      replace hE := hE.step hx23 (.inl (Nat.le_refl _))
      replace hb2 := hb2.ext hx23
      replace hb4 := hb4.ext hx23
      replace hcut := hcut.step hx23 (.inl (Nat.le_refl _))
      refine sd0 (d_stN hbq rfl rfl sz26 rfl rfl ?_)
      intro w26 hs28 ho27 hbq'
      clear hbq; have hbq := hbq'; clear hbq'
      have hz29 := ho27.size
      replace hN := hN.out ho27 (by first | omega | (simp only [blk_some, hi1_some] at *; omega))
      replace hS := hS.out ho27 (by first | omega | (simp only [blk_some, hi1_some] at *; omega))
      replace hE := hE.step ho27 (by first | omega | (simp only [blk_some, hi1_some] at *; omega))
      replace hb2 := hb2.out ho27 (by first | omega | (simp only [blk_some, hi1_some] at *; omega))
      replace hb4 := hb4.out ho27 (by first | omega | (simp only [blk_some, hi1_some] at *; omega))
      replace hcut := hcut.step ho27 (by first | omega | (simp only [blk_some, hi1_some] at *; omega))
      have hrnhe := he.rng
      replace he := he.out ho27 (by first | omega | (simp only [blk_some, hi1_some] at *; omega))
      refine rg_end ?_
      have her := he.rng
      exact n_then ⟨(bq, ae, ce), _, rfl, same_lk rfl (same_rfl), ⟨rfl, trivial⟩, ⟨hcut, hbq, (he.lower (by omega)).wide (by omega), by (try dsimp only); omega, by (try dsimp only); omega, by (try dsimp only); omega⟩⟩
    refine p_fork ?_ ?_
    ·
      refine p_step rfl ?_
      refine td rfl (d_allocA zer26 ?_)
      intro bq w30 hbbq hs32 ho31 hbq
      have hx33 := hx12.step ho31 (.inl (Nat.le_refl _))
      have hz34 := ho31.size
      refine ⟨hx33, ?_⟩
      refine t_end ?_
      refine p_step rfl ?_
      have he := Ow.nil (E := 34) (sz := 3) (enc := encEv) (lo := w30.heap.size) (hi := 0) (w := w30) (fun _ => rfl)
      have hrhe := he.rng
      refine td rfl (d_appN (xs := N.evs) he sl23 infoz34 (by decide) rfl rfl rfl (rfl) ((hN.e.ext hx33)) (fun _ => rfl) (by simp; unfold maxLen; omega) (by simp; omega) (by omega) (by omega) ?_)
      intro ae ce w35 ho36 he'
      have hs37 := ho36.size
      clear he; have he := he'; clear he'
      replace ho36 : Ext _ _ := ho36
      have hx40 := hx33.step ho36 (.inl (Nat.le_refl _))
      have hz41 := ho36.size
      replace hbq := hbq.ext ho36
      refine ⟨hx40, ?_⟩
      refine t_end ?_
      refine p_step rfl ?_
      refine tn rfl (fun _ hG => y_build (bld26_0_1 _ _ _ _ _) rfl) ?_
      refine t_end ?_
      refine p_done ?_
      have hz42 := hx40.size
      replace hN := hN.ext hx40
      replace hS := hS.ext hx40
      replace hE := hE.step hx40 (.inl (Nat.le_refl _))
      replace hb2 := hb2.ext hx40
      replace hb4 := hb4.ext hx40
      replace hcut := hcut.step hx40 (.inl (Nat.le_refl _))
      refine sd0 (d_stN hbq rfl rfl sz26 rfl rfl ?_)
      intro w43 hs45 ho44 hbq'
      clear hbq; have hbq := hbq'; clear hbq'
      have hz46 := ho44.size
      replace hN := hN.out ho44 (by first | omega | (simp only [blk_some, hi1_some] at *; omega))
      replace hS := hS.out ho44 (by first | omega | (simp only [blk_some, hi1_some] at *; omega))
      replace hE := hE.step ho44 (by first | omega | (simp only [blk_some, hi1_some] at *; omega))
      replace hb2 := hb2.out ho44 (by first | omega | (simp only [blk_some, hi1_some] at *; omega))
      replace hb4 := hb4.out ho44 (by first | omega | (simp only [blk_some, hi1_some] at *; omega))
      replace hcut := hcut.step ho44 (by first | omega | (simp only [blk_some, hi1_some] at *; omega))
      have hrnhe := he.rng
      replace he := he.out ho44 (by first | omega | (simp only [blk_some, hi1_some] at *; omega))
      refine rg_end ?_
      have her := he.rng
      exact n_then ⟨(bq, ae, ce), _, rfl, same_lk rfl (same_rfl), ⟨rfl, trivial⟩, ⟨hcut, hbq, (he.lower (by omega)).wide (by omega), by (try dsimp only); omega, by (try dsimp only); omega, by (try dsimp only); omega⟩⟩
    exact p_last
  ·
    rintro ⟨bp, ae, ce⟩ hav_ w47 ⟨ho48, hbp, he, hp0, hp1, hpd⟩
    have hz49 := ho48.size
    replace hN := hN.ext ho48
    replace hS := hS.ext ho48
    replace hE := hE.step ho48 (.inl (Nat.le_refl _))
    replace hb2 := hb2.ext ho48
    replace hb4 := hb4.ext ho48
    refine wp_seq ?_
    refine wp_seq ?_
    refine rg ?_
    refine st (asI rfl) ?_
    refine rg_end ?_
    refine n_then ?_
    refine wp_block ?_
    have her := he.rng
    obtain ⟨z1, hz1⟩ : ∃ z, z = w47.heap.size := ⟨_, rfl⟩
    refine lp (γ := Nat × List Ac × Option Addr × Nat) [6, 13, 14, 15, 16, 17, 18, 19, 20, 21, 22, 23, 24, 25, 26, 27, 28, 29, 30, 31] (fun ⟨k, acts, aa, ca⟩ => [(6, .int .i64 (k : Int))]) (fun ⟨k, acts, aa, ca⟩ w_ => Out bp (bp + 1) w47 w_ ∧ (k : Int) ≤ s.length ∧ acts = (s.take k).map (el N.acts) ∧ Blk w_ bp [.int .i64 N.p, .slice ae N.evs.length ce, .slice aa acts.length ca] ∧ Ow 36 encAc 6 z1 w_.heap.size w_ aa ca acts) (fun ⟨k, acts, aa, ca⟩ => s.length - k) (0, [], none, 0) ⟨rfl, trivial⟩ ⟨Out.refl _ _ _, by simp, by simp, hbp, Ow.nil (fun _ => rfl)⟩ ?_
    rintro ⟨k, acts, aa, ca⟩ hav_ w50 ⟨ho51, hk, hac, hbp, ha_⟩
    have hlp0 := ho51
    have hz52 := ho51.size
    replace hN := hN.out ho51 (by first | omega | (simp only [blk_some, hi1_some] at *; omega))
    replace hS := hS.out ho51 (by first | omega | (simp only [blk_some, hi1_some] at *; omega))
    replace hE := hE.step ho51 (by first | omega | (simp only [blk_some, hi1_some] at *; omega))
    replace hb2 := hb2.out ho51 (by first | omega | (simp only [blk_some, hi1_some] at *; omega))
    replace hb4 := hb4.out ho51 (by first | omega | (simp only [blk_some, hi1_some] at *; omega))
    have hrnhe := he.rng
    replace he := he.out ho51 (by first | omega | (simp only [blk_some, hi1_some] at *; omega))
    refine wp_seq ?_
    refine wp_seq ?_
    refine rg ?_
    refine st (mvI rfl) ?_
    refine st (mvS rfl) ?_
    refine st (y_len Try.underlying22 rfl) ?_
    refine st (y_lss rfl rfl) ?_
    refine rg_end ?_
    refine n_then ?_
    refine cnd rfl (fun hc0 => ?_) (fun hc0 => ?_)
    ·
      try simp only [decide_eq_true_eq, decide_eq_false_iff_not, Bool.not_eq_true', Bool.not_eq_false', Bool.and_eq_true, Bool.or_eq_true, Bool.or_eq_false_iff, Bool.cond_true_right, Bool.cond_false_right, Bool.cond_true_left, Bool.cond_false_left, ne_eq, Decidable.not_not, bne_iff_ne, beq_iff_eq, beq_eq_false_iff_ne, Bool.not_true, Bool.not_false] at hc0
      have hai := hset _ (el_mem (l := s) (i := (k : Int)) (by omega) hc0)
      have hal : acts.length = k := by rw [hac]; simp; omega
      refine wp_skip ?_
      refine n_then ?_
      refine wp_seq ?_
      refine wp_block ?_
      refine rgD 11 (fun w_ => Ext w50 w_) (fun i => Nat.beq i 10) mixed (by kernel_rfl) ?_
      intro w53 ho54 hs55
      refine ⟨ho54, ?_⟩
      have hx56 := ho54
      refine tn rfl (fun _ hG => y_fld fld26_2 rfl) ?_
      refine tn rfl (fun _ hG => y_lb (hbp.ext hG) na24 rfl rfl) ?_
      refine tn rfl (fun _ hG => y_fld fld26_2 rfl) ?_
      refine tn rfl (fun _ hG => y_lb (hb2.ext hG) na24 rfl rfl) ?_
      refine tn rfl (fun _ hG => mvS rfl) ?_
      refine tn rfl (fun _ hG => mvI rfl) ?_
      refine tn rfl (fun _ hG => y_ix (hS.ext hG) sl22 rfl (rfl) rfl (by omega) (by omega)) ?_
      refine tn rfl (fun _ hG => y_le (hS.ext hG) na3 rfl (by omega) (by omega) rfl) ?_
      refine tn rfl (fun _ hG => y_ix (hN.a.ext hG) sl24 rfl (rfl) rfl (by omega) (by omega)) ?_
      refine tn rfl (fun _ hG => y_lw (hN.a.ext hG) agg36 rfl (by omega) (by omega)) ?_
      refine td rfl (d_bs (bsl24_1 _ _ _ _ _ _ _) rfl ?_)
      intro bl60 w57 hbbl60 hs59 ho58 hbl60
      have hx61 := hx56.step ho58 (.inl (Nat.le_refl _))
      have hz62 := ho58.size
      refine ⟨hx61, ?_⟩
      refine t_end ?_
      have hz63 := hx61.size
      replace hN := hN.ext hx61
      replace hS := hS.ext hx61
      replace hE := hE.step hx61 (.inl (Nat.le_refl _))
      replace hb2 := hb2.ext hx61
      replace hb4 := hb4.ext hx61
      replace he := he.ext hx61
      replace hbp := hbp.ext hx61
      replace ha_ := ha_.ext hx61
      replace hlp0 := hlp0.step hx61 (.inl (Nat.le_refl _))
      have hrha_ := ha_.rng
      refine sd (d_app (xs := [el N.acts (el s (k : Int))]) ha_ sl24 infoz36 (by decide) rfl rfl rfl rfl (hbl60) (fun _ => rfl) (by simp; unfold maxLen; omega) (by simp; omega) (by omega) (by omega) ?_)
      intro aa1 ca1 w64 ho65 ha_'
      have hs66 := ho65.size
      clear ha_; have ha_ := ha_'; clear ha_'
      have hz69 := ho65.size
      replace hN := hN.out ho65 (by first | omega | (simp only [blk_some, hi1_some] at *; omega))
      replace hS := hS.out ho65 (by first | omega | (simp only [blk_some, hi1_some] at *; omega))
      replace hE := hE.step ho65 (by first | omega | (simp only [blk_some, hi1_some] at *; omega))
      replace hb2 := hb2.out ho65 (by first | omega | (simp only [blk_some, hi1_some] at *; omega))
      replace hb4 := hb4.out ho65 (by first | omega | (simp only [blk_some, hi1_some] at *; omega))
      replace he := he.out ho65 (by first | omega | (simp only [blk_some, hi1_some] at *; omega))
      replace hbp := hbp.out ho65 (by first | omega | (simp only [blk_some, hi1_some] at *; omega))
      replace hlp0 := hlp0.step ho65 (by first | omega | (simp only [blk_some, hi1_some] at *; omega))
      refine st (y_fld fld26_2 rfl) ?_
      refine sd0 (d_st hbp sz24 rfl rfl rfl (Nat.le_of_ble_eq_true rfl) ?_)
      intro w70 hs72 ho71 hbp'
      clear hbp; have hbp := hbp'; clear hbp'
      have hz73 := ho71.size
      replace hN := hN.out ho71 (by first | omega | (simp only [blk_some, hi1_some] at *; omega))
      replace hS := hS.out ho71 (by first | omega | (simp only [blk_some, hi1_some] at *; omega))
      replace hE := hE.step ho71 (by first | omega | (simp only [blk_some, hi1_some] at *; omega))
      replace hb2 := hb2.out ho71 (by first | omega | (simp only [blk_some, hi1_some] at *; omega))
      replace hb4 := hb4.out ho71 (by first | omega | (simp only [blk_some, hi1_some] at *; omega))
      replace he := he.out ho71 (by first | omega | (simp only [blk_some, hi1_some] at *; omega))
      replace hlp0 := hlp0.step ho71 (by first | omega | (simp only [blk_some, hi1_some] at *; omega))
      have hrnha_ := ha_.rng
      replace ha_ := ha_.out ho71 (by first | omega | (simp only [blk_some, hi1_some] at *; omega))
      refine rg_end ?_
      refine n_blk ?_
      refine n_then ?_
      refine rg ?_
      refine st (mvI rfl) ?_
      refine st (y_add rfl rfl (by omega)) ?_
      refine st (asI rfl) ?_
      refine rg_end ?_
      exact n_then ⟨(k + 1, _, _, _), _, rfl, same_lk rfl (same_h0), ⟨rfl, trivial⟩, ⟨hlp0, by omega, by rw [takeE hc0, List.map_append, hac]; rfl, hbp, ha_.wide (by omega)⟩, by first | omega | (dsimp only; omega)⟩
    ·
      try simp only [decide_eq_true_eq, decide_eq_false_iff_not, Bool.not_eq_true', Bool.not_eq_false', Bool.and_eq_true, Bool.or_eq_true, Bool.or_eq_false_iff, Bool.cond_true_right, Bool.cond_false_right, Bool.cond_true_left, Bool.cond_false_left, ne_eq, Decidable.not_not, bne_iff_ne, beq_iff_eq, beq_eq_false_iff_ne, Bool.not_true, Bool.not_false] at hc0
      refine wp_exit ?_
      refine e_then (e_then (e_blk (?_)))
      refine n_then ?_
      refine wp_seq ?_
      refine rg ?_
      refine st (y_lbN hbp agg26 rfl) ?_
      refine sd0 (d_stN hb4 rfl rfl sz26 rfl rfl ?_)
      intro w74 hs76 ho75 hb4'
      clear hb4; have hb4 := hb4'; clear hb4'
      have hz77 := ho75.size
      replace hN := hN.out ho75 (by first | omega | (simp only [blk_some, hi1_some] at *; omega))
      replace hS := hS.out ho75 (by first | omega | (simp only [blk_some, hi1_some] at *; omega))
      replace hE := hE.step ho75 (by first | omega | (simp only [blk_some, hi1_some] at *; omega))
      replace hb2 := hb2.out ho75 (by first | omega | (simp only [blk_some, hi1_some] at *; omega))
      replace he := he.out ho75 (by first | omega | (simp only [blk_some, hi1_some] at *; omega))
      replace hbp := hbp.out ho75 (by first | omega | (simp only [blk_some, hi1_some] at *; omega))
      have hrnha_ := ha_.rng
      replace ha_ := ha_.out ho75 (by first | omega | (simp only [blk_some, hi1_some] at *; omega))
      refine rg_end ?_
      refine n_then ?_
      refine wp_ret ?_
      refine retC Try.results46 hb4 agg26 rfl ?_
      have hks : s.take k = s := List.take_of_length_le (by omega)
      rw [hks] at hac
      subst hac
      exact ⟨⟨ae, ce, aa, ca⟩, by simp [netV, subN], (he.lower (by omega)).wide (by omega), (ha_.lower (by omega)).wide (by omega), hE⟩

theorem ref17_AscN_ok (l : List Int) (al : Option Addr) (cl ll hl : Nat) (n : Int) (w : World) (hL : Ints ll hl w al l) (hn : (l.length : Int) ≤ 9223372036854775807) : Cal Try.prog 22 [.slice al l.length cl, .int .i64 (n - 1)] w (fun v w' => v = .bool (ascB n (-1) l) ∧ Ext w w') := by
  have h := ref17_Ascending_ok l al cl ll hl (n - 1) w hL hn
  rwa [Int.sub_add_cancel] at h

set_option maxRecDepth 100000 in
theorem ref17_Subset_ok (N : Net) (A : NetA) (lo hi : Nat) (s : List Int) (as_ : Option Addr) (cs ls hs : Nat) (w : World) (hN : NetIn lo hi w N A) (hS : Ints ls hs w as_ s) (hn : (s.length : Int) ≤ 9223372036854775807) : Cal Try.prog 23 [netV N A, .slice as_ s.length cs] w (fun v w' => ∃ A', v = .tuple #[netV (subM N s) A', .int .i64 (subE N s)] ∧ NetIn w.heap.size w'.heap.size w' (subM N s) A' ∧ Ext w w') := by
  replace hN := hN.full
  replace hS := Ints.full hS
  have hE : Out 0 0 w w := Out.refl _ _ w
  refine enter Try.func23 rfl Try.ntmps23 rfl ?_
  refine wp_seq ?_
  refine rg ?_
  refine sd (d_boxA rfl ?_)
  intro b2 w1 hbb2 hs3 ho2 hb2
  have hz4 := ho2.size
  replace hN := hN.ext ho2
  replace hS := hS.ext ho2
  replace hE := hE.step ho2 (.inl (Nat.le_refl _))
  refine sd (d_allocA zer26 ?_)
  intro b4 w5 hbb4 hs7 ho6 hb4
  have hz8 := ho6.size
  replace hN := hN.ext ho6
  replace hS := hS.ext ho6
  replace hE := hE.step ho6 (.inl (Nat.le_refl _))
  replace hb2 := hb2.ext ho6
  refine st (asI rfl) ?_
  refine rg_end ?_
  refine n_then ?_
  refine wp_seq ?_
  refine wp_seq ?_
  refine rg ?_
  refine st (y_lbN hb2 agg26 rfl) ?_
  refine sc cl45 (ref11_Check_ok N A _ _ _ hN) rfl ?_
  rintro v13 w9 ⟨rfl, ho10⟩
  have hz14 := ho10.size
  replace hN := hN.ext ho10
  replace hS := hS.ext ho10
  replace hE := hE.step ho10 (.inl (Nat.le_refl _))
  replace hb2 := hb2.ext ho10
  replace hb4 := hb4.ext ho10
  refine st (y_not rfl) ?_
  refine rg_end ?_
  refine n_then ?_
  refine cnd rfl (fun hc0 => ?_) (fun hc0 => ?_)
  ·
    try simp only [decide_eq_true_eq, decide_eq_false_iff_not, Bool.not_eq_true', Bool.not_eq_false', Bool.and_eq_true, Bool.or_eq_true, Bool.or_eq_false_iff, Bool.cond_true_right, Bool.cond_false_right, Bool.cond_true_left, Bool.cond_false_left, ne_eq, Decidable.not_not, bne_iff_ne, beq_iff_eq, beq_eq_false_iff_ne, Bool.not_true, Bool.not_false] at hc0
    obtain ⟨q1, q2⟩ := subE1 (s := s) hc0
    refine wp_seq ?_
    refine rg ?_
    refine st (y_build (bld26_ _) rfl) ?_
    refine sd0 (d_stN hb4 rfl rfl sz26 rfl rfl ?_)
    intro w15 hs17 ho16 hb4'
    clear hb4; have hb4 := hb4'; clear hb4'
    have hz18 := ho16.size
    replace hN := hN.out ho16 (by first | omega | (simp only [blk_some, hi1_some] at *; omega))
    replace hS := hS.out ho16 (by first | omega | (simp only [blk_some, hi1_some] at *; omega))
    replace hE := hE.step ho16 (by first | omega | (simp only [blk_some, hi1_some] at *; omega))
    replace hb2 := hb2.out ho16 (by first | omega | (simp only [blk_some, hi1_some] at *; omega))
    refine st (asI rfl) ?_
    refine rg_end ?_
    refine n_then ?_
    refine wp_ret ?_
    refine r_then (retC2 (v' := (.int .i64 _)) Try.results23 hb4 agg26 rfl rfl ?_)
    rw [q1, q2]
    exact ⟨⟨none, 0, none, 0⟩, rfl, ⟨nilS, nilS⟩, hE⟩
  ·
    try simp only [decide_eq_true_eq, decide_eq_false_iff_not, Bool.not_eq_true', Bool.not_eq_false', Bool.and_eq_true, Bool.or_eq_true, Bool.or_eq_false_iff, Bool.cond_true_right, Bool.cond_false_right, Bool.cond_true_left, Bool.cond_false_left, ne_eq, Decidable.not_not, bne_iff_ne, beq_iff_eq, beq_eq_false_iff_ne, Bool.not_true, Bool.not_false] at hc0
    have hok := netOk_iff.1 hc0
    have hac := hok.ac
    refine wp_skip ?_
    refine n_then ?_
    refine wp_seq ?_
    refine wp_seq ?_
    refine rg ?_
    refine st (mvS rfl) ?_
    refine st (y_fld fld26_2 rfl) ?_
    refine st (y_lb hb2 na24 rfl rfl) ?_
    refine st (y_len Try.underlying24 rfl) ?_
    refine st (y_sub rfl rfl (by omega)) ?_
    refine sc cl22 (ref17_AscN_ok s _ _ _ _ (N.acts.length : Int) _ hS hn) rfl ?_
    rintro v23 w19 ⟨rfl, ho20⟩
    have hz24 := ho20.size
    replace hN := hN.ext ho20
    replace hS := hS.ext ho20
    replace hE := hE.step ho20 (.inl (Nat.le_refl _))
    replace hb2 := hb2.ext ho20
    replace hb4 := hb4.ext ho20
    refine st (y_not rfl) ?_
    refine rg_end ?_
    refine n_then ?_
    refine cnd rfl (fun hc1 => ?_) (fun hc1 => ?_)
    ·
      try simp only [decide_eq_true_eq, decide_eq_false_iff_not, Bool.not_eq_true', Bool.not_eq_false', Bool.and_eq_true, Bool.or_eq_true, Bool.or_eq_false_iff, Bool.cond_true_right, Bool.cond_false_right, Bool.cond_true_left, Bool.cond_false_left, ne_eq, Decidable.not_not, bne_iff_ne, beq_iff_eq, beq_eq_false_iff_ne, Bool.not_true, Bool.not_false] at hc1
      obtain ⟨q1, q2⟩ := subE4 hc0 hc1
      refine wp_seq ?_
      refine rg ?_
      refine st (y_build (bld26_ _) rfl) ?_
      refine sd0 (d_stN hb4 rfl rfl sz26 rfl rfl ?_)
      intro w25 hs27 ho26 hb4'
      clear hb4; have hb4 := hb4'; clear hb4'
      have hz28 := ho26.size
      replace hN := hN.out ho26 (by first | omega | (simp only [blk_some, hi1_some] at *; omega))
      replace hS := hS.out ho26 (by first | omega | (simp only [blk_some, hi1_some] at *; omega))
      replace hE := hE.step ho26 (by first | omega | (simp only [blk_some, hi1_some] at *; omega))
      replace hb2 := hb2.out ho26 (by first | omega | (simp only [blk_some, hi1_some] at *; omega))
      refine st (asI rfl) ?_
      refine rg_end ?_
      refine n_then ?_
      refine wp_ret ?_
      refine r_then (retC2 (v' := (.int .i64 _)) Try.results23 hb4 agg26 rfl rfl ?_)
      rw [q1, q2]
      exact ⟨⟨none, 0, none, 0⟩, rfl, ⟨nilS, nilS⟩, hE⟩
    ·
      try simp only [decide_eq_true_eq, decide_eq_false_iff_not, Bool.not_eq_true', Bool.not_eq_false', Bool.and_eq_true, Bool.or_eq_true, Bool.or_eq_false_iff, Bool.cond_true_right, Bool.cond_false_right, Bool.cond_true_left, Bool.cond_false_left, ne_eq, Decidable.not_not, bne_iff_ne, beq_iff_eq, beq_eq_false_iff_ne, Bool.not_true, Bool.not_false] at hc1
      obtain ⟨q1, q2⟩ := subE0 hc0 hc1
      have hsl := asc_len s (-1) hc1 (by omega)
      have hrg : ∀ a ∈ s, 0 ≤ a ∧ a < N.acts.length := fun a ha => by have := asc_rng s (-1) hc1 a ha; omega
      refine wp_skip ?_
      refine n_then ?_
      refine wp_seq ?_
      refine rg ?_
      refine st (y_lbN hb2 agg26 rfl) ?_
      refine st (mvS rfl) ?_
      refine sc cl46 (ref17_subset_ok N A _ _ s _ _ _ _ _ hN hS hok.ev (by omega) hrg) rfl ?_
      rintro v33 w29 ⟨A', rfl, he', ha', ho30⟩
      have hz34 := ho30.size
      replace hN := hN.ext ho30
      replace hS := hS.ext ho30
      replace hE := hE.step ho30 (.inl (Nat.le_refl _))
      replace hb2 := hb2.ext ho30
      replace hb4 := hb4.ext ho30
      refine sd0 (d_stN hb4 rfl rfl sz26 rfl rfl ?_)
      intro w35 hs37 ho36 hb4'
      clear hb4; have hb4 := hb4'; clear hb4'
      have hz38 := ho36.size
      replace hN := hN.out ho36 (by first | omega | (simp only [blk_some, hi1_some] at *; omega))
      replace hS := hS.out ho36 (by first | omega | (simp only [blk_some, hi1_some] at *; omega))
      replace hE := hE.step ho36 (by first | omega | (simp only [blk_some, hi1_some] at *; omega))
      replace hb2 := hb2.out ho36 (by first | omega | (simp only [blk_some, hi1_some] at *; omega))
      have hrnhe' := he'.rng
      replace he' := he'.out ho36 (by first | omega | (simp only [blk_some, hi1_some] at *; omega))
      have hrnha' := ha'.rng
      replace ha' := ha'.out ho36 (by first | omega | (simp only [blk_some, hi1_some] at *; omega))
      refine st (asI rfl) ?_
      refine rg_end ?_
      refine n_then ?_
      refine wp_ret ?_
      refine retC2 (v' := (.int .i64 _)) Try.results23 hb4 agg26 rfl rfl ?_
      rw [q1, q2]
      exact ⟨A', rfl, ⟨Sl.wide he'.sl (by omega) (by omega), Sl.wide ha'.sl (by omega) (by omega)⟩, hE⟩
end Go.Proofs.Ytclligkngjhihaa
