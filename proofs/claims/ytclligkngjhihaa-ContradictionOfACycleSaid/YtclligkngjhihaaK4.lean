/-
  Walks of the functions, printed by a program out of the code and the loops' relations.
-/
import Derived.Test.YtclligkngjhihaaWkI
import Derived.Test.YtclligkngjhihaaProg
import Derived.KernelRfl
import Derived.Test.YtclligkngjhihaaK3
namespace Go.Proofs.Ytclligkngjhihaa
open Go.Wk Go.RowKit
set_option linter.unusedVariables false
set_option linter.unusedSimpArgs false
set_option maxHeartbeats 2000000 in
set_option maxRecDepth 100000 in
theorem ref11_Tree_ok (N : Net) (A : NetA) (lo hi : Nat) (w : World) (hN : NetIn lo hi w N A)  : Cal Try.prog 27 [netV N A] w (fun v w' => ∃ ad c tree, v = .slice ad tree.length c ∧ Ints w.heap.size w'.heap.size w' ad tree ∧ (tree.length : Int) ≤ 512 ∧ Ext w w') := by
 replace hN := hN.full
 have hE : Out 0 0 w w := Out.refl _ _ w
 refine enter Try.func27 rfl Try.ntmps27 rfl ?_
 refine wp_seq ?_
 refine rg ?_
 refine sd (d_boxA rfl ?_)
 intro b1 w1 hbb1 hs3 ho2 hb1
 have hz4 := ho2.size
 replace hN := hN.ext ho2
 replace hE := hE.step ho2 (.inl (Nat.le_refl _))
 refine st (asS rfl) ?_
 refine rg_end ?_
 refine n_then ?_
 refine wp_seq ?_
 refine wp_seq ?_
 refine rg ?_
 refine st (y_lbN hb1 agg26 rfl) ?_
 refine sc cl45 (ref11_Check_ok N A _ _ _ hN) rfl ?_
 rintro v9 w5 ⟨rfl, ho6⟩
 have hz10 := ho6.size
 replace hN := hN.ext ho6
 replace hE := hE.step ho6 (.inl (Nat.le_refl _))
 replace hb1 := hb1.ext ho6
 refine st (y_not rfl) ?_
 refine rg_end ?_
 refine n_then ?_
 refine cnd rfl (fun hc0 => ?_) (fun hc0 => ?_)
 ·
  try simp only [nm] at hc0
  refine wp_seq ?_
  refine rg ?_
  refine st (asS rfl) ?_
  refine rg_end ?_
  refine n_then ?_
  refine wp_ret ?_
  refine r_then (ret1 (v := (.slice _ _ _)) Try.results27 rfl ?_)
  exact ⟨none, 0, [], rfl, nilS0, by simp, hE⟩
 ·
  try simp only [nm] at hc0
  have hok := netOk_iff.1 hc0
  have hne := hok.ev
  have hna := hok.ac
  have hp2 := hok.p2
  have hp7 := hok.p7
  refine wp_skip ?_
  refine n_then ?_
  refine wp_seq ?_
  refine rg ?_
  refine st (y_fld fld26_1 rfl) ?_
  refine st (y_lb hb1 na23 rfl rfl) ?_
  refine st (y_len Try.underlying23 rfl) ?_
  refine sd (d_make (m := N.evs.length) (lo := w5.heap.size) (enc := encI) (e0 := (0 : Int)) sl22 info3 (fun _ => rfl) rfl rfl rfl (by omega) (by unfold maxLen; omega) (by omega) ?_)
  intro bp w11 hbbp hs13 ho12 hP
  have hz15 := ho12.size
  replace hN := hN.ext ho12
  replace hE := hE.step ho12 (.inl (Nat.le_refl _))
  replace hb1 := hb1.ext ho12
  refine st (asS rfl) ?_
  refine rg_end ?_
  refine n_then ?_
  refine wp_seq ?_
  refine wp_seq ?_
  refine rg ?_
  refine st (mvS rfl) ?_
  refine st (y_len Try.underlying22 rfl) ?_
  refine st (mvI rfl) ?_
  refine rg_end ?_
  refine n_then ?_
  refine wp_block ?_
  refine lp (γ := Nat × List Int) [4, 20, 21, 22, 23, 24, 25, 26, 27] (fun ⟨k, P⟩ => [(20, .int .i64 (k : Int))]) (fun ⟨k, P⟩ w_ => Out bp (bp + 1) w11 w_ ∧ (k : Int) ≤ N.evs.length ∧ P.length = N.evs.length ∧ (∀ p : Nat, p < k → el P p = p) ∧ Ow 3 encI 1 bp (bp + 1) w_ (some ⟨bp, 0, none⟩) N.evs.length P) (fun ⟨k, P⟩ => N.evs.length - k) (0, List.replicate N.evs.length 0) ⟨rfl, trivial⟩ ⟨Out.refl _ _ _, by simp, by simp, (fun p hp => by omega), hP.lower (by omega)⟩ ?_
  rintro ⟨k, P⟩ hav_ w16 ⟨ho17, hk, hPl, hfil, hP⟩
  have hlp0 := ho17
  have hz18 := ho17.size
  replace hN := hN.out ho17 (by first | omega | (simp only [blk_some, hi1_some] at *; omega))
  replace hE := hE.step ho17 (by first | omega | (simp only [blk_some, hi1_some] at *; omega))
  replace hb1 := hb1.out ho17 (by first | omega | (simp only [blk_some, hi1_some] at *; omega))
  refine wp_seq ?_
  refine rg ?_
  refine st (y_lss rfl rfl) ?_
  refine rg_end ?_
  refine n_then ?_
  refine wp_seq ?_
  refine cnd rfl (fun hc1 => ?_) (fun hc1 => ?_)
  ·
   try simp only [nm] at hc1
   refine wp_skip ?_
   refine n_then ?_
   refine wp_seq ?_
   refine wp_block ?_
   refine wp_seq ?_
   refine rg ?_
   refine st (mvI rfl) ?_
   refine st (asI rfl) ?_
   refine rg_end ?_
   refine n_then ?_
   refine rg ?_
   refine st (mvS rfl) ?_
   refine st (mvI rfl) ?_
   refine st (mvI rfl) ?_
   refine st (y_ix hP.sl sl22 rfl (hPl.symm) rfl (by omega) (by omega)) ?_
   refine sd0 (d_se (j := 0)  hP sz3 rfl rfl rfl (by omega) (by omega) (Nat.le_of_ble_eq_true rfl) rfl ?_)
   intro w19 hs21 ho20 hP'
   have hrhP := hP.rng
   clear hP; have hP := hP'; clear hP'
   have hz22 := ho20.size
   replace hN := hN.out ho20 (by first | omega | (simp only [blk_some, hi1_some] at *; omega))
   replace hE := hE.step ho20 (by first | omega | (simp only [blk_some, hi1_some] at *; omega))
   replace hb1 := hb1.out ho20 (by first | omega | (simp only [blk_some, hi1_some] at *; omega))
   replace hlp0 := hlp0.step ho20 (by first | omega | (simp only [blk_some, hi1_some] at *; omega))
   refine rg_end ?_
   refine n_blk ?_
   refine n_then ?_
   refine rg ?_
   refine st (y_add rfl rfl (by omega)) ?_
   refine st (mvI rfl) ?_
   refine rg_end ?_
   exact n_then ⟨(k + 1, _), _, rfl, same_lk rfl (same_h0), ⟨rfl, trivial⟩, ⟨hlp0, by omega, by simp [hPl], fillU hPl (by omega) hfil, hP⟩, by first | omega | (dsimp only; omega)⟩
  ·
   try simp only [nm] at hc1
   have hr0 := RootOf.start hPl (fun p hp => hfil p (by omega))
   refine wp_exit ?_
   refine e_then (e_then (e_blk (?_)))
   refine n_then ?_
   refine wp_seq ?_
   refine rg ?_
   refine st (y_fld fld26_2 rfl) ?_
   refine st (y_lb hb1 na24 rfl rfl) ?_
   refine st (y_len Try.underlying24 rfl) ?_
   refine sd (d_make (m := N.acts.length) (lo := w16.heap.size) (enc := encB) (e0 := false) sl81 info4 (fun _ => rfl) rfl rfl rfl (by omega) (by unfold maxLen; omega) (by omega) ?_)
   intro bt w23 hbbt hs25 ho24 hTk
   have hz27 := ho24.size
   replace hN := hN.ext ho24
   replace hE := hE.step ho24 (.inl (Nat.le_refl _))
   replace hb1 := hb1.ext ho24
   replace hP := hP.ext ho24
   refine st (asS rfl) ?_
   refine rg_end ?_
   refine n_then ?_
   refine wp_seq ?_
   refine wp_seq ?_
   refine rg ?_
   refine st (asI rfl) ?_
   refine rg_end ?_
   refine n_then ?_
   refine wp_block ?_
   refine lp (γ := Nat × List Int × (Int → Int) × List Bool) [6, 7, 8, 32, 33, 34, 35, 36, 37, 38, 39, 40, 41, 42, 43, 44, 45, 46, 47, 48, 49, 50, 51, 52, 53, 54, 55, 56, 57, 58, 59, 60, 61, 62, 63, 64] (fun ⟨sp, P, R, Tk⟩ => [(6, .int .i64 (sp : Int))]) (fun ⟨sp, P, R, Tk⟩ w_ => Out bp (bt + 1) w23 w_ ∧ (sp : Int) ≤ N.p ∧ RootOf N.evs.length P R ∧ Tk.length = N.acts.length ∧ Ow 3 encI 1 bp (bp + 1) w_ (some ⟨bp, 0, none⟩) N.evs.length P ∧ Ow 4 encB 1 bt (bt + 1) w_ (some ⟨bt, 0, none⟩) N.acts.length Tk) (fun ⟨sp, P, R, Tk⟩ => N.p.toNat - sp) (0, _, fun x => x, List.replicate N.acts.length false) ⟨rfl, trivial⟩ ⟨Out.refl _ _ _, by (try dsimp only); omega, hr0, by simp, hP, hTk.lower (by omega)⟩ ?_
   rintro ⟨sp, P, R, Tk⟩ hav_ w28 ⟨ho29, hsp, hr, hTl, hP, hTk⟩
   have hlp1 := ho29
   have hz30 := ho29.size
   replace hN := hN.out ho29 (by first | omega | (simp only [blk_some, hi1_some] at *; omega))
   replace hE := hE.step ho29 (by first | omega | (simp only [blk_some, hi1_some] at *; omega))
   replace hb1 := hb1.out ho29 (by first | omega | (simp only [blk_some, hi1_some] at *; omega))
   refine wp_seq ?_
   refine wp_seq ?_
   refine rg ?_
   refine st (mvI rfl) ?_
   refine st (y_fld fld26_0 rfl) ?_
   refine st (y_lb hb1 na3 rfl rfl) ?_
   refine st (y_lss rfl rfl) ?_
   refine rg_end ?_
   refine n_then ?_
   refine cnd rfl (fun hc2 => ?_) (fun hc2 => ?_)
   ·
    try simp only [nm] at hc2
    refine wp_skip ?_
    refine n_then ?_
    refine wp_seq ?_
    refine wp_block ?_
    refine wp_seq ?_
    refine rg ?_
    refine st (asI rfl) ?_
    refine rg_end ?_
    refine n_then ?_
    refine wp_block ?_
    refine lp (γ := Nat × List Int × (Int → Int) × List Bool) [7, 8, 38, 39, 40, 41, 42, 43, 44, 45, 46, 47, 48, 49, 50, 51, 52, 53, 54, 55, 56, 57, 58, 59, 60, 61, 62, 63, 64] (fun ⟨k, P, R, Tk⟩ => [(7, .int .i64 (k : Int))]) (fun ⟨k, P, R, Tk⟩ w_ => Out bp (bt + 1) w28 w_ ∧ (k : Int) ≤ N.acts.length ∧ RootOf N.evs.length P R ∧ Tk.length = N.acts.length ∧ Ow 3 encI 1 bp (bp + 1) w_ (some ⟨bp, 0, none⟩) N.evs.length P ∧ Ow 4 encB 1 bt (bt + 1) w_ (some ⟨bt, 0, none⟩) N.acts.length Tk) (fun ⟨k, P, R, Tk⟩ => N.acts.length - k) (0, P, R, Tk) ⟨rfl, trivial⟩ ⟨Out.refl _ _ _, by simp, hr, hTl, hP, hTk⟩ ?_
    rintro ⟨k, P, R, Tk⟩ hav_ w31 ⟨ho32, hk, hr, hTl, hP, hTk⟩
    have hlp2 := ho32
    have hz33 := ho32.size
    replace hN := hN.out ho32 (by first | omega | (simp only [blk_some, hi1_some] at *; omega))
    replace hE := hE.step ho32 (by first | omega | (simp only [blk_some, hi1_some] at *; omega))
    replace hb1 := hb1.out ho32 (by first | omega | (simp only [blk_some, hi1_some] at *; omega))
    replace hlp1 := hlp1.step ho32 (by first | omega | (simp only [blk_some, hi1_some] at *; omega))
    refine wp_seq ?_
    refine wp_seq ?_
    refine rg ?_
    refine st (mvI rfl) ?_
    refine st (y_fld fld26_2 rfl) ?_
    refine st (y_lb hb1 na24 rfl rfl) ?_
    refine st (y_len Try.underlying24 rfl) ?_
    refine st (y_lss rfl rfl) ?_
    refine rg_end ?_
    refine n_then ?_
    refine cnd rfl (fun hc3 => ?_) (fun hc3 => ?_)
    ·
     try simp only [nm] at hc3
     have ha := hok.acs _ (el_mem (l := N.acts) (i := (k : Int)) (by omega) hc3)
     obtain ⟨f0, f1, t0, t1, ne, m0, m1, m2, m3, _, _⟩ := ha
     have hPl := hr.1
     refine wp_skip ?_
     refine n_then ?_
     refine wp_seq ?_
     refine wp_block ?_
     refine wp_seq ?_
     refine rg ?_
     refine st (y_fld fld26_2 rfl) ?_
     refine st (y_lb hb1 na24 rfl rfl) ?_
     refine st (mvI rfl) ?_
     refine st (y_ix hN.a sl24 rfl (rfl) rfl (by omega) (by omega)) ?_
     refine st (y_lw hN.a agg36 rfl (by omega) (by omega)) ?_
     refine sd (d_allocA zer36 ?_)
     intro b8 w34 hbb8 hs36 ho35 hb8
     have hz37 := ho35.size
     replace hN := hN.ext ho35
     replace hE := hE.step ho35 (.inl (Nat.le_refl _))
     replace hb1 := hb1.ext ho35
     replace hlp1 := hlp1.step ho35 (.inl (Nat.le_refl _))
     replace hP := hP.ext ho35
     replace hTk := hTk.ext ho35
     replace hlp2 := hlp2.step ho35 (.inl (Nat.le_refl _))
     refine sd0 (d_stN hb8 rfl rfl sz36 rfl rfl ?_)
     intro w38 hs40 ho39 hb8'
     clear hb8; have hb8 := hb8'; clear hb8'
     have hz41 := ho39.size
     replace hN := hN.out ho39 (by first | omega | (simp only [blk_some, hi1_some] at *; omega))
     replace hE := hE.step ho39 (by first | omega | (simp only [blk_some, hi1_some] at *; omega))
     replace hb1 := hb1.out ho39 (by first | omega | (simp only [blk_some, hi1_some] at *; omega))
     replace hlp1 := hlp1.step ho39 (by first | omega | (simp only [blk_some, hi1_some] at *; omega))
     have hrnhP := hP.rng
     replace hP := hP.out ho39 (by first | omega | (simp only [blk_some, hi1_some] at *; omega))
     have hrnhTk := hTk.rng
     replace hTk := hTk.out ho39 (by first | omega | (simp only [blk_some, hi1_some] at *; omega))
     replace hlp2 := hlp2.step ho39 (by first | omega | (simp only [blk_some, hi1_some] at *; omega))
     refine rg_end ?_
     refine n_then ?_
     refine wp_seq ?_
     refine rg ?_
     refine st (y_fld fld36_4 rfl) ?_
     refine st (y_lb hb8 na3 rfl rfl) ?_
     refine st (y_fld fld36_3 rfl) ?_
     refine st (y_lb hb8 na3 rfl rfl) ?_
     refine st (y_sub rfl rfl (by omega)) ?_
     refine st (mvI rfl) ?_
     refine st (y_eql rfl rfl) ?_
     refine st (mvB rfl) ?_
     refine gspL 57 rfl (fun hg42 => ?_) (fun hg42 => ?_)
     ·
      have hg42n := hg42; try simp only [nm] at hg42n
      refine stg rfl rfl hg42 (mvS rfl) ?_
      refine stg rfl rfl hg42 (y_lbN hb8 agg36 rfl) ?_
      refine scg rfl rfl hg42 cl51 (ref11_merge_ok N.evs.length P R _ _ _ _ (el N.acts (k : Int)) _ hP hr (by omega) f0 f1 t0 t1) rfl ?_
      rintro v47 w43 ⟨P', rfl, hP'l, hP, hr1, ho44⟩
      have hz48 := ho44.size
      replace hN := hN.out ho44 (by first | omega | (simp only [blk_some, hi1_some] at *; omega))
      replace hE := hE.step ho44 (by first | omega | (simp only [blk_some, hi1_some] at *; omega))
      replace hb1 := hb1.out ho44 (by first | omega | (simp only [blk_some, hi1_some] at *; omega))
      replace hlp1 := hlp1.step ho44 (by first | omega | (simp only [blk_some, hi1_some] at *; omega))
      replace hTk := hTk.out ho44 (by first | omega | (simp only [blk_some, hi1_some] at *; omega))
      replace hlp2 := hlp2.step ho44 (by first | omega | (simp only [blk_some, hi1_some] at *; omega))
      replace hb8 := hb8.out ho44 (by first | omega | (simp only [blk_some, hi1_some] at *; omega))
      refine st (y_pickT rfl hg42 (v := .bool _) rfl) ?_
      refine rg_end ?_
      refine n_then ?_
      refine cnd rfl (fun hc4 => ?_) (fun hc4 => ?_)
      ·
       try simp only [nm] at hc4
       refine rg ?_
       refine st (mvS rfl) ?_
       refine st (mvI rfl) ?_
       refine st (y_ix hTk.sl sl81 rfl (hTl.symm) rfl (by omega) (by omega)) ?_
       refine sd0 (d_se (j := 0) (e' := true) hTk sz4 rfl rfl rfl (by omega) (by omega) (Nat.le_of_ble_eq_true rfl) rfl ?_)
       intro w49 hs51 ho50 hTk'
       have hrhTk := hTk.rng
       clear hTk; have hTk := hTk'; clear hTk'
       have hz52 := ho50.size
       replace hN := hN.out ho50 (by first | omega | (simp only [blk_some, hi1_some] at *; omega))
       replace hE := hE.step ho50 (by first | omega | (simp only [blk_some, hi1_some] at *; omega))
       replace hb1 := hb1.out ho50 (by first | omega | (simp only [blk_some, hi1_some] at *; omega))
       replace hlp1 := hlp1.step ho50 (by first | omega | (simp only [blk_some, hi1_some] at *; omega))
       replace hP := hP.out ho50 (by first | omega | (simp only [blk_some, hi1_some] at *; omega))
       replace hlp2 := hlp2.step ho50 (by first | omega | (simp only [blk_some, hi1_some] at *; omega))
       replace hb8 := hb8.out ho50 (by first | omega | (simp only [blk_some, hi1_some] at *; omega))
       have hTl1 : (Tk.set (k : Int).toNat true).length = N.acts.length := by simp [hTl]
       refine rg_end ?_
       refine n_blk ?_
       refine n_then ?_
       refine rg ?_
       refine st (mvI rfl) ?_
       refine st (y_add rfl rfl (by omega)) ?_
       refine st (asI rfl) ?_
       refine rg_end ?_
       exact n_then ⟨(k + 1, _, _, _), _, rfl, same_lk rfl (same_h0), ⟨rfl, trivial⟩, ⟨hlp2, by omega, hr1, hTl1, hP, hTk⟩, by first | omega | (dsimp only; omega)⟩
      ·
       try simp only [nm] at hc4
       have hTl1 := hTl
       refine wp_skip ?_
       refine n_blk ?_
       refine n_then ?_
       refine rg ?_
       refine st (mvI rfl) ?_
       refine st (y_add rfl rfl (by omega)) ?_
       refine st (asI rfl) ?_
       refine rg_end ?_
       exact n_then ⟨(k + 1, _, _, _), _, rfl, same_lk rfl (same_h0), ⟨rfl, trivial⟩, ⟨hlp2, by omega, hr1, hTl1, hP, hTk⟩, by first | omega | (dsimp only; omega)⟩
     ·
      have hg42n := hg42; try simp only [nm] at hg42n
      have hr1 := hr
      refine sts rfl rfl hg42 ?_
      refine sts rfl rfl hg42 ?_
      refine sts rfl rfl hg42 ?_
      refine st (y_pickF rfl hg42 (v := .bool _) rfl) ?_
      refine rg_end ?_
      refine n_then ?_
      refine cnd rfl (fun hc4 => absurd hc4 (by decide)) (fun hc4 => ?_)
      have hTl1 := hTl
      refine wp_skip ?_
      refine n_blk ?_
      refine n_then ?_
      refine rg ?_
      refine st (mvI rfl) ?_
      refine st (y_add rfl rfl (by omega)) ?_
      refine st (asI rfl) ?_
      refine rg_end ?_
      exact n_then ⟨(k + 1, _, _, _), _, rfl, same_lk rfl (same_h0), ⟨rfl, trivial⟩, ⟨hlp2, by omega, hr1, hTl1, hP, hTk⟩, by first | omega | (dsimp only; omega)⟩
    ·
     try simp only [nm] at hc3
     refine wp_exit ?_
     refine e_then (e_then (e_blk (?_)))
     refine n_blk ?_
     refine n_then ?_
     refine rg ?_
     refine st (mvI rfl) ?_
     refine st (y_add rfl rfl (by omega)) ?_
     refine st (asI rfl) ?_
     refine rg_end ?_
     exact n_then ⟨(sp + 1, _, _, _), _, rfl, same_lk rfl (same_hav rfl (same_lk rfl (same_h0))), ⟨rfl, trivial⟩, ⟨hlp1, by omega, hr, hTl, hP, hTk⟩, by first | omega | (dsimp only; omega)⟩
   ·
    try simp only [nm] at hc2
    refine wp_exit ?_
    refine e_then (e_then (e_blk (?_)))
    refine n_then ?_
    refine wp_seq ?_
    refine rg ?_
    refine st (asS rfl) ?_
    refine rg_end ?_
    refine n_then ?_
    refine wp_seq ?_
    refine wp_seq ?_
    refine rg ?_
    refine st (mvS rfl) ?_
    refine st (y_len Try.underlying81 rfl) ?_
    refine st (mvI rfl) ?_
    refine rg_end ?_
    refine n_then ?_
    refine wp_block ?_
    obtain ⟨z3, hz3⟩ : ∃ z, z = w28.heap.size := ⟨_, rfl⟩
    refine lp (γ := Nat × List Int × Option Addr × Nat) [9, 10, 67, 68, 69, 70, 71, 72, 73, 74, 75, 76, 77, 78] (fun ⟨k, ls, ao, co⟩ => [(67, .int .i64 (k : Int)), (9, .slice ao ls.length co)]) (fun ⟨k, ls, ao, co⟩ w_ => Ext w28 w_ ∧ (k : Int) ≤ N.acts.length ∧ (ls.length : Int) ≤ k ∧ Ow 3 encI 1 z3 w_.heap.size w_ ao co ls) (fun ⟨k, ls, ao, co⟩ => N.acts.length - k) (0, [], none, 0) ⟨rfl, rfl, trivial⟩ ⟨Out.refl _ _ _, by simp, by simp, Ow.nil (fun _ => rfl)⟩ ?_
    rintro ⟨k, ls, ao, co⟩ hav_ w53 ⟨ho54, hk, hls, hO⟩
    have hlp3 := ho54
    have hz55 := ho54.size
    replace hN := hN.ext ho54
    replace hE := hE.step ho54 (.inl (Nat.le_refl _))
    replace hb1 := hb1.ext ho54
    replace hP := hP.ext ho54
    replace hTk := hTk.ext ho54
    refine wp_seq ?_
    refine rg ?_
    refine st (y_lss rfl rfl) ?_
    refine rg_end ?_
    refine n_then ?_
    refine wp_seq ?_
    refine cnd rfl (fun hc5 => ?_) (fun hc5 => ?_)
    ·
     try simp only [nm] at hc5
     refine wp_skip ?_
     refine n_then ?_
     refine wp_seq ?_
     refine wp_block ?_
     refine wp_seq ?_
     refine rg ?_
     refine st (mvI rfl) ?_
     refine st (asI rfl) ?_
     refine rg_end ?_
     refine n_then ?_
     refine wp_seq ?_
     refine rg ?_
     refine st (mvS rfl) ?_
     refine st (mvI rfl) ?_
     refine st (y_ix hTk.sl sl81 rfl (hTl.symm) rfl (by omega) (by omega)) ?_
     refine st (y_le hTk.sl na4 rfl (by omega) (by omega) rfl) ?_
     refine rg_end ?_
     refine n_then ?_
     refine cnd rfl (fun hc6 => ?_) (fun hc6 => ?_)
     ·
      try simp only [nm] at hc6
      refine rg ?_
      refine st (mvS rfl) ?_
      refine st (mvI rfl) ?_
      refine sd (d_bs (bsl22_1 _ _) rfl ?_)
      intro bl59 w56 hbbl59 hs58 ho57 hbl59
      have hz60 := ho57.size
      replace hN := hN.ext ho57
      replace hE := hE.step ho57 (.inl (Nat.le_refl _))
      replace hb1 := hb1.ext ho57
      replace hP := hP.ext ho57
      replace hTk := hTk.ext ho57
      replace hO := hO.ext ho57
      replace hlp3 := hlp3.step ho57 (.inl (Nat.le_refl _))
      have hrhO := hO.rng
      refine sd (d_app (xs := [(k : Int)]) hO sl22 infoz3 (by decide) rfl rfl rfl rfl (hbl59) (fun _ => rfl) (by simp; unfold maxLen; omega) (by simp; omega) (by omega) (by omega) ?_)
      intro ao1 co1 w61 ho62 hO'
      have hs63 := ho62.size
      clear hO; have hO := hO'; clear hO'
      have hz66 := ho62.size
      replace hN := hN.out ho62 (by first | omega | (simp only [blk_some, hi1_some] at *; omega))
      replace hE := hE.step ho62 (by first | omega | (simp only [blk_some, hi1_some] at *; omega))
      replace hb1 := hb1.out ho62 (by first | omega | (simp only [blk_some, hi1_some] at *; omega))
      have hrnhP := hP.rng
      replace hP := hP.out ho62 (by first | omega | (simp only [blk_some, hi1_some] at *; omega))
      have hrnhTk := hTk.rng
      replace hTk := hTk.out ho62 (by first | omega | (simp only [blk_some, hi1_some] at *; omega))
      replace hlp3 := hlp3.step ho62 (by first | omega | (simp only [blk_some, hi1_some] at *; omega))
      refine st (asS rfl) ?_
      refine rg_end ?_
      refine n_blk ?_
      refine n_then ?_
      refine rg ?_
      refine st (y_add rfl rfl (by omega)) ?_
      refine st (mvI rfl) ?_
      refine rg_end ?_
      exact n_then ⟨(k + 1, _, _, _), _, rfl, same_lk rfl (same_h0), ⟨rfl, rfl, trivial⟩, ⟨hlp3, by omega, by first | omega | (simp; omega), hO.wide (by omega)⟩, by first | omega | (dsimp only; omega)⟩
     ·
      try simp only [nm] at hc6
      refine wp_skip ?_
      refine n_blk ?_
      refine n_then ?_
      refine rg ?_
      refine st (y_add rfl rfl (by omega)) ?_
      refine st (mvI rfl) ?_
      refine rg_end ?_
      exact n_then ⟨(k + 1, _, _, _), _, rfl, same_lk rfl (same_h0), ⟨rfl, rfl, trivial⟩, ⟨hlp3, by omega, by first | omega | (simp; omega), hO.wide (by omega)⟩, by first | omega | (dsimp only; omega)⟩
    ·
     try simp only [nm] at hc5
     have hlk : (ls.length : Int) ≤ k := hls
     refine wp_exit ?_
     refine e_then (e_then (e_blk (?_)))
     refine n_then ?_
     refine wp_seq ?_
     refine rg ?_
     refine st (mvS rfl) ?_
     refine st (asS rfl) ?_
     refine rg_end ?_
     refine n_then ?_
     refine wp_ret ?_
     refine ret1 (v := (.slice _ _ _)) Try.results27 rfl ?_
     exact ⟨ao, co, ls, rfl, Sl.wide (Ow.sl hO) (by omega) (by omega), by omega, hE⟩

/-- The shape of a slice alone: an address that any world knows. -/
theorem shp (b m : Nat) (x : World) : Sl (fun _ : Unit => ([] : List Value)) 1 b (b + 1) x (some ⟨b, 0, none⟩) (List.replicate m ()) := ⟨fun _ => ⟨⟨b, 0, rfl⟩, Nat.le_refl _, Nat.lt_succ_self _⟩, fun i x hx j y hy => by simp at hy⟩

set_option maxHeartbeats 4000000 in
set_option maxRecDepth 100000 in
theorem ref11_path_ok (N : Net) (A : NetA) (lo hi : Nat) (tree : List Int) (at_ : Option Addr) (ct lt ht : Nat) (src dst : Int) (w : World) (hN : NetIn lo hi w N A) (hT : Ints lt ht w at_ tree) (htn : (tree.length : Int) ≤ 9223372036854775807) (hok : NetOk N) (htm : ∀ a ∈ tree, 0 ≤ a ∧ a < N.acts.length) (s0 : 0 ≤ src) (s1 : src < N.evs.length) (d0 : 0 ≤ dst) (d1 : dst < N.evs.length) (hcon : conB (tree.map (el N.acts)) src dst = true) : Cal Try.prog 50 [netV N A, .slice at_ tree.length ct, .int .i64 src, .int .i64 dst] w (fun v w' => ∃ aa ca ag cg arcs signs xs rk, v = .tuple #[.slice aa arcs.length ca, .slice ag signs.length cg, .bool true] ∧ Ints w.heap.size w'.heap.size w' aa arcs ∧ Ints w.heap.size w'.heap.size w' ag signs ∧ Pa N tree rk src dst arcs signs xs ∧ (arcs.length : Int) ≤ 48 ∧ Ext w w') := by
 replace hN := hN.full
 replace hT := Ints.full hT
 have hev := hok.ev
 have hac := hok.ac
 have hE : Out 0 0 w w := Out.refl _ _ w
 refine enter Try.func50 rfl Try.ntmps50 rfl ?_
 refine wp_seq ?_
 refine rg ?_
 refine sd (d_boxA rfl ?_)
 intro b4 w1 hbb4 hs3 ho2 hb4
 have hz4 := ho2.size
 replace hN := hN.ext ho2
 replace hT := hT.ext ho2
 replace hE := hE.step ho2 (.inl (Nat.le_refl _))
 refine st (asS rfl) ?_
 refine st (asS rfl) ?_
 refine st (asB rfl) ?_
 refine rg_end ?_
 refine n_then ?_
 refine wp_seq ?_
 refine rg ?_
 refine st (y_fld fld26_1 rfl) ?_
 refine st (y_lb hb4 na23 rfl rfl) ?_
 refine st (y_len Try.underlying23 rfl) ?_
 refine sd (d_make (m := N.evs.length) (lo := w1.heap.size) (enc := encI) (e0 := (0 : Int)) sl22 info3 (fun _ => rfl) rfl rfl rfl (by omega) (by unfold maxLen; omega) (by omega) ?_)
 intro bv w5 hbbv hs7 ho6 hV
 have hz9 := ho6.size
 replace hN := hN.ext ho6
 replace hT := hT.ext ho6
 replace hE := hE.step ho6 (.inl (Nat.le_refl _))
 replace hb4 := hb4.ext ho6
 refine st (asS rfl) ?_
 refine rg_end ?_
 refine n_then ?_
 refine wp_seq ?_
 refine wp_seq ?_
 refine rg ?_
 refine st (mvS rfl) ?_
 refine st (y_len Try.underlying22 rfl) ?_
 refine st (mvI rfl) ?_
 refine rg_end ?_
 refine n_then ?_
 refine wp_block ?_
 refine lp (γ := Nat × List Int) [12, 28, 29, 30, 31, 32, 33, 34] (fun ⟨k, V⟩ => [(28, .int .i64 (k : Int))]) (fun ⟨k, V⟩ w_ => Out bv (bv + 1) w5 w_ ∧ (k : Int) ≤ N.evs.length ∧ V.length = N.evs.length ∧ Ow 3 encI 1 bv (bv + 1) w_ (some ⟨bv, 0, none⟩) N.evs.length  V) (fun ⟨k, V⟩ => N.evs.length - k) (0, List.replicate N.evs.length 0) ⟨rfl, trivial⟩ ⟨Out.refl _ _ _, by simp, by simp, hV.lower (by omega)⟩ ?_
 rintro ⟨k, V⟩ hav_ w10 ⟨ho11, hk, hVl, hV⟩
 have hlp0 := ho11
 have hz12 := ho11.size
 replace hN := hN.out ho11 (by first | omega | (simp only [blk_some, hi1_some] at *; omega))
 replace hT := hT.out ho11 (by first | omega | (simp only [blk_some, hi1_some] at *; omega))
 replace hE := hE.step ho11 (by first | omega | (simp only [blk_some, hi1_some] at *; omega))
 replace hb4 := hb4.out ho11 (by first | omega | (simp only [blk_some, hi1_some] at *; omega))
 refine wp_seq ?_
 refine rg ?_
 refine st (y_lss rfl rfl) ?_
 refine rg_end ?_
 refine n_then ?_
 refine wp_seq ?_
 refine cnd rfl (fun hc0 => ?_) (fun hc0 => ?_)
 ·
  try simp only [nm] at hc0
  refine wp_skip ?_
  refine n_then ?_
  refine wp_seq ?_
  refine wp_block ?_
  refine wp_seq ?_
  refine rg ?_
  refine st (mvI rfl) ?_
  refine st (asI rfl) ?_
  refine rg_end ?_
  refine n_then ?_
  refine rg ?_
  refine st (mvS rfl) ?_
  refine st (mvI rfl) ?_
  refine st (y_ix hV.sl sl22 rfl (hVl.symm) rfl (by omega) (by omega)) ?_
  refine sd0 (d_se (j := 0) (e' := (-1 : Int)) hV sz3 rfl rfl rfl (by omega) (by omega) (Nat.le_of_ble_eq_true rfl) rfl ?_)
  intro w13 hs15 ho14 hV'
  have hrhV := hV.rng
  clear hV; have hV := hV'; clear hV'
  have hz16 := ho14.size
  replace hN := hN.out ho14 (by first | omega | (simp only [blk_some, hi1_some] at *; omega))
  replace hT := hT.out ho14 (by first | omega | (simp only [blk_some, hi1_some] at *; omega))
  replace hE := hE.step ho14 (by first | omega | (simp only [blk_some, hi1_some] at *; omega))
  replace hb4 := hb4.out ho14 (by first | omega | (simp only [blk_some, hi1_some] at *; omega))
  replace hlp0 := hlp0.step ho14 (by first | omega | (simp only [blk_some, hi1_some] at *; omega))
  refine rg_end ?_
  refine n_blk ?_
  refine n_then ?_
  refine rg ?_
  refine st (y_add rfl rfl (by omega)) ?_
  refine st (mvI rfl) ?_
  refine rg_end ?_
  exact n_then ⟨(k + 1, _), _, rfl, same_lk rfl (same_h0), ⟨rfl, trivial⟩, ⟨hlp0, by omega, by simp [hVl], hV⟩, by first | omega | (dsimp only; omega)⟩
 ·
  try simp only [nm] at hc0
  refine wp_exit ?_
  refine e_then (e_then (e_blk (?_)))
  refine n_then ?_
  refine wp_seq ?_
  refine rg ?_
  refine st (y_fld fld26_1 rfl) ?_
  refine st (y_lb hb4 na23 rfl rfl) ?_
  refine st (y_len Try.underlying23 rfl) ?_
  refine sd (d_make (m := N.evs.length) (lo := w10.heap.size) (enc := encB) (e0 := false) sl81 info4 (fun _ => rfl) rfl rfl rfl (by omega) (by unfold maxLen; omega) (by omega) ?_)
  intro bs w17 hbbs hs19 ho18 hSn
  have hz21 := ho18.size
  replace hN := hN.ext ho18
  replace hT := hT.ext ho18
  replace hE := hE.step ho18 (.inl (Nat.le_refl _))
  replace hb4 := hb4.ext ho18
  replace hV := hV.ext ho18
  refine st (asS rfl) ?_
  refine rg_end ?_
  refine n_then ?_
  refine wp_seq ?_
  refine rg ?_
  refine st (mvS rfl) ?_
  refine st (mvI rfl) ?_
  refine st (y_ix hSn.sl sl81 rfl (by simp) rfl (s0) (by simp; omega)) ?_
  refine sd0 (d_se (j := 0) (e' := true) hSn sz4 rfl rfl rfl (s0) (by simp; omega) (Nat.le_of_ble_eq_true rfl) rfl ?_)
  intro w22 hs24 ho23 hSn'
  have hrhSn := hSn.rng
  clear hSn; have hSn := hSn'; clear hSn'
  have hz25 := ho23.size
  replace hN := hN.out ho23 (by first | omega | (simp only [blk_some, hi1_some] at *; omega))
  replace hT := hT.out ho23 (by first | omega | (simp only [blk_some, hi1_some] at *; omega))
  replace hE := hE.step ho23 (by first | omega | (simp only [blk_some, hi1_some] at *; omega))
  replace hb4 := hb4.out ho23 (by first | omega | (simp only [blk_some, hi1_some] at *; omega))
  have hrnhV := hV.rng
  replace hV := hV.out ho23 (by first | omega | (simp only [blk_some, hi1_some] at *; omega))
  have hbf0 := BF.first (tree := tree) hVl s0 s1
  refine rg_end ?_
  refine n_then ?_
  refine wp_seq ?_
  refine wp_seq ?_
  refine rg ?_
  refine st (asI rfl) ?_
  refine rg_end ?_
  refine n_then ?_
  refine wp_block ?_
  refine lp (γ := Nat × List Int × List Bool × (Int → Nat) × Nat) [14, 15, 16, 42, 43, 44, 45, 46, 47, 48, 49, 50, 51, 52, 53, 54, 55, 56, 57, 58, 59, 60, 61, 62, 63, 64, 65, 66, 67, 68, 69, 70, 71, 72, 73, 74, 75, 76, 77, 78, 79, 80, 81, 82, 83, 84, 85, 86, 87, 88, 89, 90, 91, 92, 93, 94, 95, 96, 97, 98, 99, 100, 101, 102, 103, 104, 105, 106, 107, 108, 109, 110, 111, 112] (fun ⟨r, V, Sn, rk, c⟩ => [(14, .int .i64 (r : Int))]) (fun ⟨r, V, Sn, rk, c⟩ w_ => Out bv (bs + 1) w22 w_ ∧ (r : Int) ≤ N.evs.length ∧ BF N tree src V Sn rk c ∧ (Clo N tree Sn ∨ r + 1 ≤ Sn.count true) ∧ Ow 3 encI 1 bv (bv + 1) w_ (some ⟨bv, 0, none⟩) N.evs.length  V ∧ Ow 4 encB 1 bs (bs + 1) w_ (some ⟨bs, 0, none⟩) N.evs.length  Sn) (fun ⟨r, V, Sn, rk, c⟩ => N.evs.length - r) (0, V, _, fun _ => 0, 1) ⟨rfl, trivial⟩ ⟨Out.refl _ _ _, by simp, hbf0, .inr hbf0.cnt, hV, hSn.lower (by omega)⟩ ?_
  rintro ⟨r, V, Sn, rk, c⟩ hav_ w26 ⟨ho27, hr, hbf, hrd, hV, hSn⟩
  have hlp1 := ho27
  have hz28 := ho27.size
  replace hN := hN.out ho27 (by first | omega | (simp only [blk_some, hi1_some] at *; omega))
  replace hT := hT.out ho27 (by first | omega | (simp only [blk_some, hi1_some] at *; omega))
  replace hE := hE.step ho27 (by first | omega | (simp only [blk_some, hi1_some] at *; omega))
  replace hb4 := hb4.out ho27 (by first | omega | (simp only [blk_some, hi1_some] at *; omega))
  refine wp_seq ?_
  refine wp_seq ?_
  refine rg ?_
  refine st (mvI rfl) ?_
  refine st (y_fld fld26_1 rfl) ?_
  refine st (y_lb hb4 na23 rfl rfl) ?_
  refine st (y_len Try.underlying23 rfl) ?_
  refine st (y_lss rfl rfl) ?_
  refine rg_end ?_
  refine n_then ?_
  refine cnd rfl (fun hc1 => ?_) (fun hc1 => ?_)
  ·
   try simp only [nm] at hc1
   refine wp_skip ?_
   refine n_then ?_
   refine wp_seq ?_
   refine wp_block ?_
   refine wp_seq ?_
   refine rg ?_
   refine st (asI rfl) ?_
   refine rg_end ?_
   refine n_then ?_
   refine wp_block ?_
   refine lp (γ := Nat × List Int × List Bool × (Int → Nat) × Nat) [15, 16, 49, 50, 51, 52, 53, 54, 55, 56, 57, 58, 59, 60, 61, 62, 63, 64, 65, 66, 67, 68, 69, 70, 71, 72, 73, 74, 75, 76, 77, 78, 79, 80, 81, 82, 83, 84, 85, 86, 87, 88, 89, 90, 91, 92, 93, 94, 95, 96, 97, 98, 99, 100, 101, 102, 103, 104, 105, 106, 107, 108, 109, 110, 111, 112] (fun ⟨q, V2, S2, rk2, c2⟩ => [(15, .int .i64 (q : Int))]) (fun ⟨q, V2, S2, rk2, c2⟩ w_ => Out bv (bs + 1) w26 w_ ∧ (q : Int) ≤ tree.length ∧ BF N tree src V2 S2 rk2 c2 ∧ Rnd N tree Sn S2 q ∧ Ow 3 encI 1 bv (bv + 1) w_ (some ⟨bv, 0, none⟩) N.evs.length  V2 ∧ Ow 4 encB 1 bs (bs + 1) w_ (some ⟨bs, 0, none⟩) N.evs.length  S2) (fun ⟨q, V2, S2, rk2, c2⟩ => tree.length - q) (0, V, Sn, rk, c) ⟨rfl, trivial⟩ ⟨Out.refl _ _ _, by simp, hbf, Rnd.zero, hV, hSn⟩ ?_
   rintro ⟨q, V2, S2, rk2, c2⟩ hav_ w29 ⟨ho30, hq, hbf2, hrn, hV, hSn⟩
   have hlp2 := ho30
   have hz31 := ho30.size
   replace hN := hN.out ho30 (by first | omega | (simp only [blk_some, hi1_some] at *; omega))
   replace hT := hT.out ho30 (by first | omega | (simp only [blk_some, hi1_some] at *; omega))
   replace hE := hE.step ho30 (by first | omega | (simp only [blk_some, hi1_some] at *; omega))
   replace hb4 := hb4.out ho30 (by first | omega | (simp only [blk_some, hi1_some] at *; omega))
   replace hlp1 := hlp1.step ho30 (by first | omega | (simp only [blk_some, hi1_some] at *; omega))
   refine wp_seq ?_
   refine wp_seq ?_
   refine rg ?_
   refine st (mvI rfl) ?_
   refine st (mvS rfl) ?_
   refine st (y_len Try.underlying22 rfl) ?_
   refine st (y_lss rfl rfl) ?_
   refine rg_end ?_
   refine n_then ?_
   refine cnd rfl (fun hc2 => ?_) (fun hc2 => ?_)
   ·
    try simp only [nm] at hc2
    have hmq := el_mem (l := tree) (i := (q : Int)) (by omega) hc2
    have htq := htm _ hmq
    have ha := hok.acs _ (el_mem htq.1 htq.2)
    have hvl2 := hbf2.vl
    have hsl2 := hbf2.sl
    refine wp_skip ?_
    refine n_then ?_
    refine wp_seq ?_
    refine wp_block ?_
    refine wp_seq ?_
    refine rgD 9 (fun w_ => Ext w29 w_) (fun i => Nat.beq i 8) mixed (by kernel_rfl) ?_
    intro w32 ho33 hs34
    refine ⟨ho33, ?_⟩
    have hx35 := ho33
    refine tn rfl (fun _ hG => y_fld fld26_2 rfl) ?_
    refine tn rfl (fun _ hG => y_lb (hb4.ext hG) na24 rfl rfl) ?_
    refine tn rfl (fun _ hG => mvS rfl) ?_
    refine tn rfl (fun _ hG => mvI rfl) ?_
    refine tn rfl (fun _ hG => y_ix (hT.ext hG) sl22 rfl (rfl) rfl (by omega) (by omega)) ?_
    refine tn rfl (fun _ hG => y_le (hT.ext hG) na3 rfl (by omega) (by omega) rfl) ?_
    refine tn rfl (fun _ hG => y_ix (hN.a.ext hG) sl24 rfl (rfl) rfl (by omega) (by omega)) ?_
    refine tn rfl (fun _ hG => y_lw (hN.a.ext hG) agg36 rfl (by omega) (by omega)) ?_
    refine td rfl (d_allocA zer36 ?_)
    intro b16 w36 hbb16 hs38 ho37 hb16
    have hx39 := hx35.step ho37 (.inl (Nat.le_refl _))
    have hz40 := ho37.size
    refine ⟨hx39, ?_⟩
    refine t_end ?_
    have hz41 := hx39.size
    replace hN := hN.ext hx39
    replace hT := hT.ext hx39
    replace hE := hE.step hx39 (.inl (Nat.le_refl _))
    replace hb4 := hb4.ext hx39
    replace hlp1 := hlp1.step hx39 (.inl (Nat.le_refl _))
    replace hV := hV.ext hx39
    replace hSn := hSn.ext hx39
    replace hlp2 := hlp2.step hx39 (.inl (Nat.le_refl _))
    refine sd0 (d_stN hb16 rfl rfl sz36 rfl rfl ?_)
    intro w42 hs44 ho43 hb16'
    clear hb16; have hb16 := hb16'; clear hb16'
    have hz45 := ho43.size
    replace hN := hN.out ho43 (by first | omega | (simp only [blk_some, hi1_some] at *; omega))
    replace hT := hT.out ho43 (by first | omega | (simp only [blk_some, hi1_some] at *; omega))
    replace hE := hE.step ho43 (by first | omega | (simp only [blk_some, hi1_some] at *; omega))
    replace hb4 := hb4.out ho43 (by first | omega | (simp only [blk_some, hi1_some] at *; omega))
    replace hlp1 := hlp1.step ho43 (by first | omega | (simp only [blk_some, hi1_some] at *; omega))
    have hrnhV := hV.rng
    replace hV := hV.out ho43 (by first | omega | (simp only [blk_some, hi1_some] at *; omega))
    have hrnhSn := hSn.rng
    replace hSn := hSn.out ho43 (by first | omega | (simp only [blk_some, hi1_some] at *; omega))
    replace hlp2 := hlp2.step ho43 (by first | omega | (simp only [blk_some, hi1_some] at *; omega))
    refine rg_end ?_
    refine n_then ?_
    refine wp_seq ?_
    refine rg ?_
    refine st (mvS rfl) ?_
    refine st (y_fld fld36_1 rfl) ?_
    refine st (y_lb hb16 na3 rfl rfl) ?_
    refine st (y_ix hSn.sl sl81 rfl (hbf2.sl.symm) rfl (ha.f0) (by have := ha.f1; omega)) ?_
    refine st (y_le hSn.sl na4 rfl (ha.f0) (by have := ha.f1; omega) rfl) ?_
    refine st (mvB rfl) ?_
    refine gspL 68 rfl (fun hg46 => ?_) (fun hg46 => ?_)
    ·
     have hg46n := hg46; try simp only [nm] at hg46n
     refine stg rfl rfl hg46 (mvS rfl) ?_
     refine stg rfl rfl hg46 (y_fld fld36_2 rfl) ?_
     refine stg rfl rfl hg46 (y_lb hb16 na3 rfl rfl) ?_
     refine stg rfl rfl hg46 (y_ix hSn.sl sl81 rfl (hbf2.sl.symm) rfl (ha.t0) (by have := ha.t1; omega)) ?_
     refine stg rfl rfl hg46 (y_le hSn.sl na4 rfl (ha.t0) (by have := ha.t1; omega) rfl) ?_
     refine stg rfl rfl hg46 (y_not rfl) ?_
     refine st (y_pickT rfl hg46 (v := .bool _) rfl) ?_
     refine rg_end ?_
     refine n_then ?_
     refine cnd rfl (fun hc3 => ?_) (fun hc3 => ?_)
     ·
      try simp only [nm] at hc3
      have hfT : el S2 (el N.acts (el tree (q : Int))).fr = true := by assumption
      have hbf3 := hbf2.put ha.t0 ha.t1 hc3 ha.f0 ha.f1 hfT hmq (.inl ⟨rfl, rfl⟩)
      have hrn1 := hrn.more (by omega) (fun h => by unfold CloAt at h; rw [hfT, hc3] at h; cases h) ha.t0 (by have := ha.t1; omega) hc3
      refine rgD 12 (fun w_ => Out bs (bs + 1) w42 w_) (fun i => Nat.beq i 11) mixed (by kernel_rfl) ?_
      intro w47 ho48 hs49
      refine ⟨ho48.wide (.inl (Nat.le_refl _)), ?_⟩
      have hx50 := ho48.wide (a' := bs) (b' := (bs + 1)) (.inl (Nat.le_refl _))
      replace hSn := hSn.ext ho48
      refine tn rfl (fun _ hG => mvS rfl) ?_
      refine tn rfl (fun _ hG => y_fld fld36_2 rfl) ?_
      refine tn rfl (fun _ hG => y_lb (hb16.out hG (by first | omega | (simp only [blk_some, hi1_some] at *; omega))) na3 rfl rfl) ?_
      refine tn rfl (fun _ hG => mvS rfl) ?_
      refine tn rfl (fun _ hG => y_fld fld36_2 rfl) ?_
      refine tn rfl (fun _ hG => y_lb (hb16.out hG (by first | omega | (simp only [blk_some, hi1_some] at *; omega))) na3 rfl rfl) ?_
      refine tn rfl (fun _ hG => mvS rfl) ?_
      refine tn rfl (fun _ hG => mvI rfl) ?_
      refine tn rfl (fun _ hG => y_ix (hT.out hG (by first | omega | (simp only [blk_some, hi1_some] at *; omega))) sl22 rfl (rfl) rfl (by omega) (by omega)) ?_
      refine tn rfl (fun _ hG => y_le (hT.out hG (by first | omega | (simp only [blk_some, hi1_some] at *; omega))) na3 rfl (by omega) (by omega) rfl) ?_
      refine tn rfl (fun _ hG => y_ix (shp bs N.evs.length _) sl81 rfl (by simp) rfl (ha.t0) (by simp; have := ha.t1; omega)) ?_
      refine td0 rfl (d_se (j := 0) (e' := true) hSn sz4 rfl rfl rfl (ha.t0) (by have := ha.t1; omega) (Nat.le_of_ble_eq_true rfl) rfl ?_)
      intro w51 hs53 ho52 hSn'
      have hrhSn := hSn.rng
      clear hSn; have hSn := hSn'; clear hSn'
      have hx54 : Out bs (bs + 1) w42 w51 := hx50.step ho52 (by first | omega | (simp only [blk_some, hi1_some] at *; omega))
      have hz55 := ho52.size
      refine ⟨hx54, ?_⟩
      refine t_end ?_
      have hz56 := hx54.size
      replace hN := hN.out hx54 (by first | omega | (simp only [blk_some, hi1_some] at *; omega))
      replace hT := hT.out hx54 (by first | omega | (simp only [blk_some, hi1_some] at *; omega))
      replace hE := hE.step hx54 (by first | omega | (simp only [blk_some, hi1_some] at *; omega))
      replace hb4 := hb4.out hx54 (by first | omega | (simp only [blk_some, hi1_some] at *; omega))
      replace hlp1 := hlp1.step hx54 (by first | omega | (simp only [blk_some, hi1_some] at *; omega))
      replace hV := hV.out hx54 (by first | omega | (simp only [blk_some, hi1_some] at *; omega))
      replace hlp2 := hlp2.step hx54 (by first | omega | (simp only [blk_some, hi1_some] at *; omega))
      replace hb16 := hb16.out hx54 (by first | omega | (simp only [blk_some, hi1_some] at *; omega))
      refine st (y_ix hV.sl sl22 rfl (hbf2.vl.symm) rfl (ha.t0) (by have := ha.t1; omega)) ?_
      refine sd0 (d_se (j := 0) (e' := el tree (q : Int)) hV sz3 rfl rfl rfl (ha.t0) (by have := ha.t1; omega) (Nat.le_of_ble_eq_true rfl) rfl ?_)
      intro w57 hs59 ho58 hV'
      have hrhV := hV.rng
      clear hV; have hV := hV'; clear hV'
      have hz60 := ho58.size
      replace hN := hN.out ho58 (by first | omega | (simp only [blk_some, hi1_some] at *; omega))
      replace hT := hT.out ho58 (by first | omega | (simp only [blk_some, hi1_some] at *; omega))
      replace hE := hE.step ho58 (by first | omega | (simp only [blk_some, hi1_some] at *; omega))
      replace hb4 := hb4.out ho58 (by first | omega | (simp only [blk_some, hi1_some] at *; omega))
      replace hlp1 := hlp1.step ho58 (by first | omega | (simp only [blk_some, hi1_some] at *; omega))
      replace hSn := hSn.out ho58 (by first | omega | (simp only [blk_some, hi1_some] at *; omega))
      replace hlp2 := hlp2.step ho58 (by first | omega | (simp only [blk_some, hi1_some] at *; omega))
      replace hb16 := hb16.out ho58 (by first | omega | (simp only [blk_some, hi1_some] at *; omega))
      refine rg_end ?_
      refine n_blk ?_
      refine n_then ?_
      refine rg ?_
      refine st (mvI rfl) ?_
      refine st (y_add rfl rfl (by omega)) ?_
      refine st (asI rfl) ?_
      refine rg_end ?_
      exact n_then ⟨(q + 1, _, _, _, _), _, rfl, same_lk rfl (same_h0), ⟨rfl, trivial⟩, ⟨hlp2, by omega, hbf3, hrn1, hV, hSn⟩, by first | omega | (dsimp only; omega)⟩
     ·
      try simp only [nm] at hc3
      refine wp_seq ?_
      refine rg ?_
      refine st (mvS rfl) ?_
      refine st (y_fld fld36_2 rfl) ?_
      refine st (y_lb hb16 na3 rfl rfl) ?_
      refine st (y_ix hSn.sl sl81 rfl (hbf2.sl.symm) rfl (ha.t0) (by have := ha.t1; omega)) ?_
      refine st (y_le hSn.sl na4 rfl (ha.t0) (by have := ha.t1; omega) rfl) ?_
      refine st (mvB rfl) ?_
      refine gspL 93 rfl (fun hg61 => ?_) (fun hg61 => ?_)
      ·
       have hg61n := hg61; try simp only [nm] at hg61n
       refine stg rfl rfl hg61 (mvS rfl) ?_
       refine stg rfl rfl hg61 (y_fld fld36_1 rfl) ?_
       refine stg rfl rfl hg61 (y_lb hb16 na3 rfl rfl) ?_
       refine stg rfl rfl hg61 (y_ix hSn.sl sl81 rfl (hbf2.sl.symm) rfl (ha.f0) (by have := ha.f1; omega)) ?_
       refine stg rfl rfl hg61 (y_le hSn.sl na4 rfl (ha.f0) (by have := ha.f1; omega) rfl) ?_
       refine stg rfl rfl hg61 (y_not rfl) ?_
       refine st (y_pickT rfl hg61 (v := .bool _) rfl) ?_
       refine rg_end ?_
       refine n_then ?_
       refine cnd rfl (fun hc4 => ?_) (fun hc4 => ?_)
       ·
        try simp only [nm] at hc4
        have htT : el S2 (el N.acts (el tree (q : Int))).tt = true := by assumption
        have hbf3 := hbf2.put ha.f0 ha.f1 hc4 ha.t0 ha.t1 htT hmq (.inr ⟨rfl, rfl⟩)
        have hrn1 := hrn.more (by omega) (fun h => by unfold CloAt at h; rw [htT, hc4] at h; cases h) ha.f0 (by have := ha.f1; omega) hc4
        refine rgD 12 (fun w_ => Out bs (bs + 1) w42 w_) (fun i => Nat.beq i 11) mixed (by kernel_rfl) ?_
        intro w62 ho63 hs64
        refine ⟨ho63.wide (.inl (Nat.le_refl _)), ?_⟩
        have hx65 := ho63.wide (a' := bs) (b' := (bs + 1)) (.inl (Nat.le_refl _))
        replace hSn := hSn.ext ho63
        refine tn rfl (fun _ hG => mvS rfl) ?_
        refine tn rfl (fun _ hG => y_fld fld36_1 rfl) ?_
        refine tn rfl (fun _ hG => y_lb (hb16.out hG (by first | omega | (simp only [blk_some, hi1_some] at *; omega))) na3 rfl rfl) ?_
        refine tn rfl (fun _ hG => mvS rfl) ?_
        refine tn rfl (fun _ hG => y_fld fld36_1 rfl) ?_
        refine tn rfl (fun _ hG => y_lb (hb16.out hG (by first | omega | (simp only [blk_some, hi1_some] at *; omega))) na3 rfl rfl) ?_
        refine tn rfl (fun _ hG => mvS rfl) ?_
        refine tn rfl (fun _ hG => mvI rfl) ?_
        refine tn rfl (fun _ hG => y_ix (hT.out hG (by first | omega | (simp only [blk_some, hi1_some] at *; omega))) sl22 rfl (rfl) rfl (by omega) (by omega)) ?_
        refine tn rfl (fun _ hG => y_le (hT.out hG (by first | omega | (simp only [blk_some, hi1_some] at *; omega))) na3 rfl (by omega) (by omega) rfl) ?_
        refine tn rfl (fun _ hG => y_ix (shp bs N.evs.length _) sl81 rfl (by simp) rfl (ha.f0) (by simp; have := ha.f1; omega)) ?_
        refine td0 rfl (d_se (j := 0) (e' := true) hSn sz4 rfl rfl rfl (ha.f0) (by have := ha.f1; omega) (Nat.le_of_ble_eq_true rfl) rfl ?_)
        intro w66 hs68 ho67 hSn'
        have hrhSn := hSn.rng
        clear hSn; have hSn := hSn'; clear hSn'
        have hx69 : Out bs (bs + 1) w42 w66 := hx65.step ho67 (by first | omega | (simp only [blk_some, hi1_some] at *; omega))
        have hz70 := ho67.size
        refine ⟨hx69, ?_⟩
        refine t_end ?_
        have hz71 := hx69.size
        replace hN := hN.out hx69 (by first | omega | (simp only [blk_some, hi1_some] at *; omega))
        replace hT := hT.out hx69 (by first | omega | (simp only [blk_some, hi1_some] at *; omega))
        replace hE := hE.step hx69 (by first | omega | (simp only [blk_some, hi1_some] at *; omega))
        replace hb4 := hb4.out hx69 (by first | omega | (simp only [blk_some, hi1_some] at *; omega))
        replace hlp1 := hlp1.step hx69 (by first | omega | (simp only [blk_some, hi1_some] at *; omega))
        replace hV := hV.out hx69 (by first | omega | (simp only [blk_some, hi1_some] at *; omega))
        replace hlp2 := hlp2.step hx69 (by first | omega | (simp only [blk_some, hi1_some] at *; omega))
        replace hb16 := hb16.out hx69 (by first | omega | (simp only [blk_some, hi1_some] at *; omega))
        refine st (y_ix hV.sl sl22 rfl (hbf2.vl.symm) rfl (ha.f0) (by have := ha.f1; omega)) ?_
        refine sd0 (d_se (j := 0) (e' := el tree (q : Int)) hV sz3 rfl rfl rfl (ha.f0) (by have := ha.f1; omega) (Nat.le_of_ble_eq_true rfl) rfl ?_)
        intro w72 hs74 ho73 hV'
        have hrhV := hV.rng
        clear hV; have hV := hV'; clear hV'
        have hz75 := ho73.size
        replace hN := hN.out ho73 (by first | omega | (simp only [blk_some, hi1_some] at *; omega))
        replace hT := hT.out ho73 (by first | omega | (simp only [blk_some, hi1_some] at *; omega))
        replace hE := hE.step ho73 (by first | omega | (simp only [blk_some, hi1_some] at *; omega))
        replace hb4 := hb4.out ho73 (by first | omega | (simp only [blk_some, hi1_some] at *; omega))
        replace hlp1 := hlp1.step ho73 (by first | omega | (simp only [blk_some, hi1_some] at *; omega))
        replace hSn := hSn.out ho73 (by first | omega | (simp only [blk_some, hi1_some] at *; omega))
        replace hlp2 := hlp2.step ho73 (by first | omega | (simp only [blk_some, hi1_some] at *; omega))
        replace hb16 := hb16.out ho73 (by first | omega | (simp only [blk_some, hi1_some] at *; omega))
        refine rg_end ?_
        refine n_blk ?_
        refine n_then ?_
        refine rg ?_
        refine st (mvI rfl) ?_
        refine st (y_add rfl rfl (by omega)) ?_
        refine st (asI rfl) ?_
        refine rg_end ?_
        exact n_then ⟨(q + 1, _, _, _, _), _, rfl, same_lk rfl (same_h0), ⟨rfl, trivial⟩, ⟨hlp2, by omega, hbf3, hrn1, hV, hSn⟩, by first | omega | (dsimp only; omega)⟩
       ·
        try simp only [nm] at hc4
        have hbf3 := hbf2
        have hcl : CloAt N S2 (el tree (q : Int)) := by
          show el S2 (el N.acts (el tree (q : Int))).fr = el S2 (el N.acts (el tree (q : Int))).tt
          first
          | rw [show el S2 (el N.acts (el tree (q : Int))).fr = true by assumption, show el S2 (el N.acts (el tree (q : Int))).tt = true by assumption]
          | rw [show el S2 (el N.acts (el tree (q : Int))).fr = false by assumption, show el S2 (el N.acts (el tree (q : Int))).tt = false by assumption]
          | exact absurd (show el S2 (el N.acts (el tree (q : Int))).fr = true by assumption) (by rw [show el S2 (el N.acts (el tree (q : Int))).fr = false by assumption]; decide)
        have hrn1 := hrn.keep hcl
        refine wp_skip ?_
        refine n_blk ?_
        refine n_then ?_
        refine rg ?_
        refine st (mvI rfl) ?_
        refine st (y_add rfl rfl (by omega)) ?_
        refine st (asI rfl) ?_
        refine rg_end ?_
        exact n_then ⟨(q + 1, _, _, _, _), _, rfl, same_lk rfl (same_h0), ⟨rfl, trivial⟩, ⟨hlp2, by omega, hbf3, hrn1, hV, hSn⟩, by first | omega | (dsimp only; omega)⟩
      ·
       have hg61n := hg61; try simp only [nm] at hg61n
       refine sts rfl rfl hg61 ?_
       refine sts rfl rfl hg61 ?_
       refine sts rfl rfl hg61 ?_
       refine sts rfl rfl hg61 ?_
       refine sts rfl rfl hg61 ?_
       refine sts rfl rfl hg61 ?_
       refine st (y_pickF rfl hg61 (v := .bool _) rfl) ?_
       refine rg_end ?_
       refine n_then ?_
       refine cnd rfl (fun hc4 => absurd hc4 (by decide)) (fun hc4 => ?_)
       have hbf3 := hbf2
       have hcl : CloAt N S2 (el tree (q : Int)) := by
         show el S2 (el N.acts (el tree (q : Int))).fr = el S2 (el N.acts (el tree (q : Int))).tt
         first
         | rw [show el S2 (el N.acts (el tree (q : Int))).fr = true by assumption, show el S2 (el N.acts (el tree (q : Int))).tt = true by assumption]
         | rw [show el S2 (el N.acts (el tree (q : Int))).fr = false by assumption, show el S2 (el N.acts (el tree (q : Int))).tt = false by assumption]
         | exact absurd (show el S2 (el N.acts (el tree (q : Int))).fr = true by assumption) (by rw [show el S2 (el N.acts (el tree (q : Int))).fr = false by assumption]; decide)
       have hrn1 := hrn.keep hcl
       refine wp_skip ?_
       refine n_blk ?_
       refine n_then ?_
       refine rg ?_
       refine st (mvI rfl) ?_
       refine st (y_add rfl rfl (by omega)) ?_
       refine st (asI rfl) ?_
       refine rg_end ?_
       exact n_then ⟨(q + 1, _, _, _, _), _, rfl, same_lk rfl (same_h0), ⟨rfl, trivial⟩, ⟨hlp2, by omega, hbf3, hrn1, hV, hSn⟩, by first | omega | (dsimp only; omega)⟩
    ·
     have hg46n := hg46; try simp only [nm] at hg46n
     refine sts rfl rfl hg46 ?_
     refine sts rfl rfl hg46 ?_
     refine sts rfl rfl hg46 ?_
     refine sts rfl rfl hg46 ?_
     refine sts rfl rfl hg46 ?_
     refine sts rfl rfl hg46 ?_
     refine st (y_pickF rfl hg46 (v := .bool _) rfl) ?_
     refine rg_end ?_
     refine n_then ?_
     refine cnd rfl (fun hc3 => absurd hc3 (by decide)) (fun hc3 => ?_)
     refine wp_seq ?_
     refine rg ?_
     refine st (mvS rfl) ?_
     refine st (y_fld fld36_2 rfl) ?_
     refine st (y_lb hb16 na3 rfl rfl) ?_
     refine st (y_ix hSn.sl sl81 rfl (hbf2.sl.symm) rfl (ha.t0) (by have := ha.t1; omega)) ?_
     refine st (y_le hSn.sl na4 rfl (ha.t0) (by have := ha.t1; omega) rfl) ?_
     refine st (mvB rfl) ?_
     refine gspL 93 rfl (fun hg76 => ?_) (fun hg76 => ?_)
     ·
      have hg76n := hg76; try simp only [nm] at hg76n
      refine stg rfl rfl hg76 (mvS rfl) ?_
      refine stg rfl rfl hg76 (y_fld fld36_1 rfl) ?_
      refine stg rfl rfl hg76 (y_lb hb16 na3 rfl rfl) ?_
      refine stg rfl rfl hg76 (y_ix hSn.sl sl81 rfl (hbf2.sl.symm) rfl (ha.f0) (by have := ha.f1; omega)) ?_
      refine stg rfl rfl hg76 (y_le hSn.sl na4 rfl (ha.f0) (by have := ha.f1; omega) rfl) ?_
      refine stg rfl rfl hg76 (y_not rfl) ?_
      refine st (y_pickT rfl hg76 (v := .bool _) rfl) ?_
      refine rg_end ?_
      refine n_then ?_
      refine cnd rfl (fun hc4 => ?_) (fun hc4 => ?_)
      ·
       try simp only [nm] at hc4
       have htT : el S2 (el N.acts (el tree (q : Int))).tt = true := by assumption
       have hbf3 := hbf2.put ha.f0 ha.f1 hc4 ha.t0 ha.t1 htT hmq (.inr ⟨rfl, rfl⟩)
       have hrn1 := hrn.more (by omega) (fun h => by unfold CloAt at h; rw [htT, hc4] at h; cases h) ha.f0 (by have := ha.f1; omega) hc4
       refine rgD 12 (fun w_ => Out bs (bs + 1) w42 w_) (fun i => Nat.beq i 11) mixed (by kernel_rfl) ?_
       intro w77 ho78 hs79
       refine ⟨ho78.wide (.inl (Nat.le_refl _)), ?_⟩
       have hx80 := ho78.wide (a' := bs) (b' := (bs + 1)) (.inl (Nat.le_refl _))
       replace hSn := hSn.ext ho78
       refine tn rfl (fun _ hG => mvS rfl) ?_
       refine tn rfl (fun _ hG => y_fld fld36_1 rfl) ?_
       refine tn rfl (fun _ hG => y_lb (hb16.out hG (by first | omega | (simp only [blk_some, hi1_some] at *; omega))) na3 rfl rfl) ?_
       refine tn rfl (fun _ hG => mvS rfl) ?_
       refine tn rfl (fun _ hG => y_fld fld36_1 rfl) ?_
       refine tn rfl (fun _ hG => y_lb (hb16.out hG (by first | omega | (simp only [blk_some, hi1_some] at *; omega))) na3 rfl rfl) ?_
       refine tn rfl (fun _ hG => mvS rfl) ?_
       refine tn rfl (fun _ hG => mvI rfl) ?_
       refine tn rfl (fun _ hG => y_ix (hT.out hG (by first | omega | (simp only [blk_some, hi1_some] at *; omega))) sl22 rfl (rfl) rfl (by omega) (by omega)) ?_
       refine tn rfl (fun _ hG => y_le (hT.out hG (by first | omega | (simp only [blk_some, hi1_some] at *; omega))) na3 rfl (by omega) (by omega) rfl) ?_
       refine tn rfl (fun _ hG => y_ix (shp bs N.evs.length _) sl81 rfl (by simp) rfl (ha.f0) (by simp; have := ha.f1; omega)) ?_
       refine td0 rfl (d_se (j := 0) (e' := true) hSn sz4 rfl rfl rfl (ha.f0) (by have := ha.f1; omega) (Nat.le_of_ble_eq_true rfl) rfl ?_)
       intro w81 hs83 ho82 hSn'
       have hrhSn := hSn.rng
       clear hSn; have hSn := hSn'; clear hSn'
       have hx84 : Out bs (bs + 1) w42 w81 := hx80.step ho82 (by first | omega | (simp only [blk_some, hi1_some] at *; omega))
       have hz85 := ho82.size
       refine ⟨hx84, ?_⟩
       refine t_end ?_
       have hz86 := hx84.size
       replace hN := hN.out hx84 (by first | omega | (simp only [blk_some, hi1_some] at *; omega))
       replace hT := hT.out hx84 (by first | omega | (simp only [blk_some, hi1_some] at *; omega))
       replace hE := hE.step hx84 (by first | omega | (simp only [blk_some, hi1_some] at *; omega))
       replace hb4 := hb4.out hx84 (by first | omega | (simp only [blk_some, hi1_some] at *; omega))
       replace hlp1 := hlp1.step hx84 (by first | omega | (simp only [blk_some, hi1_some] at *; omega))
       replace hV := hV.out hx84 (by first | omega | (simp only [blk_some, hi1_some] at *; omega))
       replace hlp2 := hlp2.step hx84 (by first | omega | (simp only [blk_some, hi1_some] at *; omega))
       replace hb16 := hb16.out hx84 (by first | omega | (simp only [blk_some, hi1_some] at *; omega))
       refine st (y_ix hV.sl sl22 rfl (hbf2.vl.symm) rfl (ha.f0) (by have := ha.f1; omega)) ?_
       refine sd0 (d_se (j := 0) (e' := el tree (q : Int)) hV sz3 rfl rfl rfl (ha.f0) (by have := ha.f1; omega) (Nat.le_of_ble_eq_true rfl) rfl ?_)
       intro w87 hs89 ho88 hV'
       have hrhV := hV.rng
       clear hV; have hV := hV'; clear hV'
       have hz90 := ho88.size
       replace hN := hN.out ho88 (by first | omega | (simp only [blk_some, hi1_some] at *; omega))
       replace hT := hT.out ho88 (by first | omega | (simp only [blk_some, hi1_some] at *; omega))
       replace hE := hE.step ho88 (by first | omega | (simp only [blk_some, hi1_some] at *; omega))
       replace hb4 := hb4.out ho88 (by first | omega | (simp only [blk_some, hi1_some] at *; omega))
       replace hlp1 := hlp1.step ho88 (by first | omega | (simp only [blk_some, hi1_some] at *; omega))
       replace hSn := hSn.out ho88 (by first | omega | (simp only [blk_some, hi1_some] at *; omega))
       replace hlp2 := hlp2.step ho88 (by first | omega | (simp only [blk_some, hi1_some] at *; omega))
       replace hb16 := hb16.out ho88 (by first | omega | (simp only [blk_some, hi1_some] at *; omega))
       refine rg_end ?_
       refine n_blk ?_
       refine n_then ?_
       refine rg ?_
       refine st (mvI rfl) ?_
       refine st (y_add rfl rfl (by omega)) ?_
       refine st (asI rfl) ?_
       refine rg_end ?_
       exact n_then ⟨(q + 1, _, _, _, _), _, rfl, same_lk rfl (same_h0), ⟨rfl, trivial⟩, ⟨hlp2, by omega, hbf3, hrn1, hV, hSn⟩, by first | omega | (dsimp only; omega)⟩
      ·
       try simp only [nm] at hc4
       have hbf3 := hbf2
       have hcl : CloAt N S2 (el tree (q : Int)) := by
         show el S2 (el N.acts (el tree (q : Int))).fr = el S2 (el N.acts (el tree (q : Int))).tt
         first
         | rw [show el S2 (el N.acts (el tree (q : Int))).fr = true by assumption, show el S2 (el N.acts (el tree (q : Int))).tt = true by assumption]
         | rw [show el S2 (el N.acts (el tree (q : Int))).fr = false by assumption, show el S2 (el N.acts (el tree (q : Int))).tt = false by assumption]
         | exact absurd (show el S2 (el N.acts (el tree (q : Int))).fr = true by assumption) (by rw [show el S2 (el N.acts (el tree (q : Int))).fr = false by assumption]; decide)
       have hrn1 := hrn.keep hcl
       refine wp_skip ?_
       refine n_blk ?_
       refine n_then ?_
       refine rg ?_
       refine st (mvI rfl) ?_
       refine st (y_add rfl rfl (by omega)) ?_
       refine st (asI rfl) ?_
       refine rg_end ?_
       exact n_then ⟨(q + 1, _, _, _, _), _, rfl, same_lk rfl (same_h0), ⟨rfl, trivial⟩, ⟨hlp2, by omega, hbf3, hrn1, hV, hSn⟩, by first | omega | (dsimp only; omega)⟩
     ·
      have hg76n := hg76; try simp only [nm] at hg76n
      refine sts rfl rfl hg76 ?_
      refine sts rfl rfl hg76 ?_
      refine sts rfl rfl hg76 ?_
      refine sts rfl rfl hg76 ?_
      refine sts rfl rfl hg76 ?_
      refine sts rfl rfl hg76 ?_
      refine st (y_pickF rfl hg76 (v := .bool _) rfl) ?_
      refine rg_end ?_
      refine n_then ?_
      refine cnd rfl (fun hc4 => absurd hc4 (by decide)) (fun hc4 => ?_)
      have hbf3 := hbf2
      have hcl : CloAt N S2 (el tree (q : Int)) := by
        show el S2 (el N.acts (el tree (q : Int))).fr = el S2 (el N.acts (el tree (q : Int))).tt
        first
        | rw [show el S2 (el N.acts (el tree (q : Int))).fr = true by assumption, show el S2 (el N.acts (el tree (q : Int))).tt = true by assumption]
        | rw [show el S2 (el N.acts (el tree (q : Int))).fr = false by assumption, show el S2 (el N.acts (el tree (q : Int))).tt = false by assumption]
        | exact absurd (show el S2 (el N.acts (el tree (q : Int))).fr = true by assumption) (by rw [show el S2 (el N.acts (el tree (q : Int))).fr = false by assumption]; decide)
      have hrn1 := hrn.keep hcl
      refine wp_skip ?_
      refine n_blk ?_
      refine n_then ?_
      refine rg ?_
      refine st (mvI rfl) ?_
      refine st (y_add rfl rfl (by omega)) ?_
      refine st (asI rfl) ?_
      refine rg_end ?_
      exact n_then ⟨(q + 1, _, _, _, _), _, rfl, same_lk rfl (same_h0), ⟨rfl, trivial⟩, ⟨hlp2, by omega, hbf3, hrn1, hV, hSn⟩, by first | omega | (dsimp only; omega)⟩
   ·
    try simp only [nm] at hc2
    have hrd1 := hrn.done (by omega) hrd
    refine wp_exit ?_
    refine e_then (e_then (e_blk (?_)))
    refine n_blk ?_
    refine n_then ?_
    refine rg ?_
    refine st (mvI rfl) ?_
    refine st (y_add rfl rfl (by omega)) ?_
    refine st (asI rfl) ?_
    refine rg_end ?_
    exact n_then ⟨(r + 1, _, _, _, _), _, rfl, same_lk rfl (same_hav rfl (same_lk rfl (same_h0))), ⟨rfl, trivial⟩, ⟨hlp1, by omega, hbf2, hrd1, hV, hSn⟩, by first | omega | (dsimp only; omega)⟩
  ·
   try simp only [nm] at hc1
   have hclo := Clo.all hbf hrd (by omega)
   have hsd := hclo.reach hcon hbf.s0
   have hvl := hbf.vl
   have hsl := hbf.sl
   have hbd := hbf.top dst d0 d1 hsd
   have hcn := hbf.cnt
   have hcl : Sn.count true ≤ Sn.length := List.count_le_length
   refine wp_exit ?_
   refine e_then (e_then (e_blk (?_)))
   refine n_then ?_
   refine wp_seq ?_
   refine wp_seq ?_
   refine rg ?_
   refine st (mvS rfl) ?_
   refine st (mvI rfl) ?_
   refine st (y_ix hSn.sl sl81 rfl (hbf.sl.symm) rfl (by omega) (by omega)) ?_
   refine st (y_le hSn.sl na4 rfl (by omega) (by omega) rfl) ?_
   refine st (y_not rfl) ?_
   refine rg_end ?_
   refine n_then ?_
   refine cnd rfl (fun hc5 => absurd ((congrArg Bool.not hsd).symm.trans hc5) (by decide)) (fun hc5 => ?_)
   refine wp_skip ?_
   refine n_then ?_
   refine wp_seq ?_
   refine rg ?_
   refine st (asS rfl) ?_
   refine st (asS rfl) ?_
   refine rg_end ?_
   refine n_then ?_
   refine wp_seq ?_
   refine wp_seq ?_
   refine rg ?_
   refine st (mvI rfl) ?_
   refine st (asI rfl) ?_
   refine rg_end ?_
   refine n_then ?_
   refine wp_block ?_
   obtain ⟨z2, hz2⟩ : ∃ z, z = w26.heap.size := ⟨_, rfl⟩
   refine lp (γ := Int × List Int × List Int × List Int × Option Addr × Nat × Option Addr × Nat) [17, 18, 19, 20, 21, 119, 120, 121, 122, 123, 124, 125, 126, 127, 128, 129, 130, 131, 132, 133, 134, 135, 136, 137, 138, 139, 140, 141, 142, 143, 144, 145, 146, 147, 148, 149, 150, 151] (fun ⟨x, arcs, signs, xs, aa, ca, ag, cg⟩ => [(19, .int .i64 x), (17, .slice aa arcs.length ca), (18, .slice ag signs.length cg)]) (fun ⟨x, arcs, signs, xs, aa, ca, ag, cg⟩ w_ => Ext w26 w_ ∧ 0 ≤ x ∧ x < N.evs.length ∧ el Sn x = true ∧ Pa N tree rk x dst arcs signs xs ∧ rk x + arcs.length ≤ rk dst ∧ Ow 3 encI 1 z2 w_.heap.size w_ aa ca arcs ∧ Ow 3 encI 1 z2 w_.heap.size w_ ag cg signs) (fun ⟨x, arcs, signs, xs, aa, ca, ag, cg⟩ => rk x) (dst, [], [], [dst], none, 0, none, 0) ⟨rfl, rfl, rfl, trivial⟩ ⟨Out.refl _ _ _, d0, d1, hsd, Pa.nil, by simp, Ow.nil (fun _ => rfl), Ow.nil (fun _ => rfl)⟩ ?_
   rintro ⟨x, arcs, signs, xs, aa, ca, ag, cg⟩ hav_ w91 ⟨ho92, x0, x1, hxs, hpa, hrkx, hAr, hGr⟩
   have hlp3 := ho92
   have hz93 := ho92.size
   replace hN := hN.ext ho92
   replace hT := hT.ext ho92
   replace hE := hE.step ho92 (.inl (Nat.le_refl _))
   replace hb4 := hb4.ext ho92
   replace hV := hV.ext ho92
   replace hSn := hSn.ext ho92
   refine wp_seq ?_
   refine wp_seq ?_
   refine rg ?_
   refine st (mvI rfl) ?_
   refine st (mvI rfl) ?_
   refine st (y_neq rfl rfl) ?_
   refine rg_end ?_
   refine n_then ?_
   refine cnd rfl (fun hc6 => ?_) (fun hc6 => ?_)
   ·
    try simp only [nm] at hc6
    obtain ⟨y, y0, y1, hy, hry, hvt, hjn⟩ := (hbf.par x x0 x1 hxs).resolve_left hc6
    have htv := htm _ hvt
    have ha := hok.acs _ (el_mem htv.1 htv.2)
    have hf1 := ha.f1
    have hf0 := ha.f0
    have ht1 := ha.t1
    have ht0 := ha.t0
    have hxl := hpa.slen
    refine wp_skip ?_
    refine n_then ?_
    refine wp_block ?_
    refine wp_seq ?_
    refine rgD 9 (fun w_ => Ext w91 w_) (fun i => Nat.beq i 8) mixed (by kernel_rfl) ?_
    intro w94 ho95 hs96
    refine ⟨ho95, ?_⟩
    have hx97 := ho95
    refine tn rfl (fun _ hG => y_fld fld26_2 rfl) ?_
    refine tn rfl (fun _ hG => y_lb (hb4.ext hG) na24 rfl rfl) ?_
    refine tn rfl (fun _ hG => mvS rfl) ?_
    refine tn rfl (fun _ hG => mvI rfl) ?_
    refine tn rfl (fun _ hG => y_ix (hV.ext hG).sl sl22 rfl (hbf.vl.symm) rfl (by omega) (by omega)) ?_
    refine tn rfl (fun _ hG => y_le (hV.ext hG).sl na3 rfl (by omega) (by omega) rfl) ?_
    refine tn rfl (fun _ hG => y_ix (hN.a.ext hG) sl24 rfl (rfl) rfl (by omega) (by omega)) ?_
    refine tn rfl (fun _ hG => y_lw (hN.a.ext hG) agg36 rfl (by omega) (by omega)) ?_
    refine td rfl (d_allocA zer36 ?_)
    intro b20 w98 hbb20 hs100 ho99 hb20
    have hx101 := hx97.step ho99 (.inl (Nat.le_refl _))
    have hz102 := ho99.size
    refine ⟨hx101, ?_⟩
    refine t_end ?_
    have hz103 := hx101.size
    replace hN := hN.ext hx101
    replace hT := hT.ext hx101
    replace hE := hE.step hx101 (.inl (Nat.le_refl _))
    replace hb4 := hb4.ext hx101
    replace hV := hV.ext hx101
    replace hSn := hSn.ext hx101
    replace hAr := hAr.ext hx101
    replace hGr := hGr.ext hx101
    replace hlp3 := hlp3.step hx101 (.inl (Nat.le_refl _))
    refine sd0 (d_stN hb20 rfl rfl sz36 rfl rfl ?_)
    intro w104 hs106 ho105 hb20'
    clear hb20; have hb20 := hb20'; clear hb20'
    have hz107 := ho105.size
    replace hN := hN.out ho105 (by first | omega | (simp only [blk_some, hi1_some] at *; omega))
    replace hT := hT.out ho105 (by first | omega | (simp only [blk_some, hi1_some] at *; omega))
    replace hE := hE.step ho105 (by first | omega | (simp only [blk_some, hi1_some] at *; omega))
    replace hb4 := hb4.out ho105 (by first | omega | (simp only [blk_some, hi1_some] at *; omega))
    have hrnhV := hV.rng
    replace hV := hV.out ho105 (by first | omega | (simp only [blk_some, hi1_some] at *; omega))
    have hrnhSn := hSn.rng
    replace hSn := hSn.out ho105 (by first | omega | (simp only [blk_some, hi1_some] at *; omega))
    have hrnhAr := hAr.rng
    replace hAr := hAr.out ho105 (by first | omega | (simp only [blk_some, hi1_some] at *; omega))
    have hrnhGr := hGr.rng
    replace hGr := hGr.out ho105 (by first | omega | (simp only [blk_some, hi1_some] at *; omega))
    replace hlp3 := hlp3.step ho105 (by first | omega | (simp only [blk_some, hi1_some] at *; omega))
    refine rg_end ?_
    refine n_then ?_
    refine wp_seq ?_
    refine rg ?_
    refine st (asI rfl) ?_
    refine rg_end ?_
    refine n_then ?_
    refine wp_seq ?_
    refine wp_seq ?_
    refine rg ?_
    refine st (y_fld fld36_1 rfl) ?_
    refine st (y_lb hb20 na3 rfl rfl) ?_
    refine st (mvI rfl) ?_
    refine st (y_eql rfl rfl) ?_
    refine rg_end ?_
    refine n_then ?_
    refine cnd rfl (fun hc7 => ?_) (fun hc7 => ?_)
    ·
     try simp only [nm] at hc7
     have hj2 : (el N.acts (el V x)).fr = x ∧ (el N.acts (el V x)).tt = y := by
       rcases hjn with h | h
       · exact absurd hry (by rw [← h.1, hc7]; exact Nat.lt_irrefl _)
       · exact h
     have hpa1 := hpa.cons (v := el V x) (s := -1) (z := y) hvt (.inr rfl) hj2.2 hj2.1 hry
     have hxy : (el N.acts (el V x)).fr + (el N.acts (el V x)).tt - x = y := by omega
     refine rg ?_
     refine st (asI rfl) ?_
     refine rg_end ?_
     refine n_then ?_
     refine wp_seq ?_
     refine rg ?_
     refine st (mvS rfl) ?_
     refine st (mvI rfl) ?_
     refine st (y_ix hV.sl sl22 rfl (hbf.vl.symm) rfl (by omega) (by omega)) ?_
     refine st (y_le hV.sl na3 rfl (by omega) (by omega) rfl) ?_
     refine sd (d_bsO (lo := w104.heap.size) (enc := encI) (l := [_]) (sz := 1) (fun _ => rfl) (bsl22_1 _ _) rfl rfl (by unfold maxLen; omega) (by omega) ?_)
     intro b1 w108 hbb1 hs110 ho109 hna
     have hz111 := ho109.size
     replace hN := hN.ext ho109
     replace hT := hT.ext ho109
     replace hE := hE.step ho109 (.inl (Nat.le_refl _))
     replace hb4 := hb4.ext ho109
     replace hV := hV.ext ho109
     replace hSn := hSn.ext ho109
     replace hAr := hAr.ext ho109
     replace hGr := hGr.ext ho109
     replace hlp3 := hlp3.step ho109 (.inl (Nat.le_refl _))
     replace hb20 := hb20.ext ho109
     refine st (mvS rfl) ?_
     have hrhna := hna.rng
     refine sd (d_appN (xs := arcs) hna sl22 infoz3 (by decide) rfl rfl rfl (rfl) (hAr.sl) (fun _ => rfl) (by simp; unfold maxLen; omega) (by simp; omega) (by omega) (by omega) ?_)
     intro aa1 ca1 w112 ho113 hna'
     have hs114 := ho113.size
     clear hna; have hna := hna'; clear hna'
     have hz117 := ho113.size
     replace hN := hN.out ho113 (by first | omega | (simp only [blk_some, hi1_some] at *; omega))
     replace hT := hT.out ho113 (by first | omega | (simp only [blk_some, hi1_some] at *; omega))
     replace hE := hE.step ho113 (by first | omega | (simp only [blk_some, hi1_some] at *; omega))
     replace hb4 := hb4.out ho113 (by first | omega | (simp only [blk_some, hi1_some] at *; omega))
     replace hV := hV.out ho113 (by first | omega | (simp only [blk_some, hi1_some] at *; omega))
     replace hSn := hSn.out ho113 (by first | omega | (simp only [blk_some, hi1_some] at *; omega))
     replace hAr := hAr.out ho113 (by first | omega | (simp only [blk_some, hi1_some] at *; omega))
     replace hGr := hGr.out ho113 (by first | omega | (simp only [blk_some, hi1_some] at *; omega))
     replace hlp3 := hlp3.step ho113 (by first | omega | (simp only [blk_some, hi1_some] at *; omega))
     replace hb20 := hb20.out ho113 (by first | omega | (simp only [blk_some, hi1_some] at *; omega))
     refine st (mvI rfl) ?_
     refine sd (d_bsO (lo := w112.heap.size) (enc := encI) (l := [_]) (sz := 1) (fun _ => rfl) (bsl22_1 _ _) rfl rfl (by unfold maxLen; omega) (by omega) ?_)
     intro b2_ w118 hbb2_ hs120 ho119 hnb
     have hz121 := ho119.size
     replace hN := hN.ext ho119
     replace hT := hT.ext ho119
     replace hE := hE.step ho119 (.inl (Nat.le_refl _))
     replace hb4 := hb4.ext ho119
     replace hV := hV.ext ho119
     replace hSn := hSn.ext ho119
     replace hAr := hAr.ext ho119
     replace hGr := hGr.ext ho119
     replace hlp3 := hlp3.step ho119 (.inl (Nat.le_refl _))
     replace hb20 := hb20.ext ho119
     replace hna := hna.ext ho119
     refine st (mvS rfl) ?_
     have hrhnb := hnb.rng
     refine sd (d_appN (xs := signs) hnb sl22 infoz3 (by decide) rfl rfl rfl (rfl) (hGr.sl) (fun _ => rfl) (by simp; unfold maxLen; omega) (by simp; omega) (by omega) (by omega) ?_)
     intro ag1 cg1 w122 ho123 hnb'
     have hs124 := ho123.size
     clear hnb; have hnb := hnb'; clear hnb'
     have hz127 := ho123.size
     replace hN := hN.out ho123 (by first | omega | (simp only [blk_some, hi1_some] at *; omega))
     replace hT := hT.out ho123 (by first | omega | (simp only [blk_some, hi1_some] at *; omega))
     replace hE := hE.step ho123 (by first | omega | (simp only [blk_some, hi1_some] at *; omega))
     replace hb4 := hb4.out ho123 (by first | omega | (simp only [blk_some, hi1_some] at *; omega))
     replace hV := hV.out ho123 (by first | omega | (simp only [blk_some, hi1_some] at *; omega))
     replace hSn := hSn.out ho123 (by first | omega | (simp only [blk_some, hi1_some] at *; omega))
     replace hAr := hAr.out ho123 (by first | omega | (simp only [blk_some, hi1_some] at *; omega))
     replace hGr := hGr.out ho123 (by first | omega | (simp only [blk_some, hi1_some] at *; omega))
     replace hlp3 := hlp3.step ho123 (by first | omega | (simp only [blk_some, hi1_some] at *; omega))
     replace hb20 := hb20.out ho123 (by first | omega | (simp only [blk_some, hi1_some] at *; omega))
     have hrnhna := hna.rng
     replace hna := hna.out ho123 (by first | omega | (simp only [blk_some, hi1_some] at *; omega))
     refine st (asS rfl) ?_
     refine st (asS rfl) ?_
     refine rg_end ?_
     refine n_then ?_
     refine rg ?_
     refine st (y_fld fld36_1 rfl) ?_
     refine st (y_lb hb20 na3 rfl rfl) ?_
     refine st (y_fld fld36_2 rfl) ?_
     refine st (y_lb hb20 na3 rfl rfl) ?_
     refine st (y_add rfl rfl (by omega)) ?_
     refine st (mvI rfl) ?_
     refine st (y_sub rfl rfl (by omega)) ?_
     refine st (asI rfl) ?_
     refine rg_end ?_
     refine n_blk ?_
     exact n_then ⟨(y, el V x :: arcs, _, y :: xs, _, _, _, _), _, rfl, same_lk rfl (same_h0), ⟨vi hxy, by rfl, by rfl, trivial⟩, ⟨hlp3, y0, y1, hy, hpa1, by simp only [List.length_cons]; omega, (hna.lower (by omega)).wide (by omega), (hnb.lower (by omega)).wide (by omega)⟩, hry⟩
    ·
     try simp only [nm] at hc7
     have hj2 : (el N.acts (el V x)).fr = y ∧ (el N.acts (el V x)).tt = x := by
       rcases hjn with h | h
       · exact h
       · exact absurd h.1 hc7
     have hpa1 := hpa.cons (v := el V x) (s := 1) (z := y) hvt (.inl rfl) hj2.1 hj2.2 hry
     have hxy : (el N.acts (el V x)).fr + (el N.acts (el V x)).tt - x = y := by omega
     refine wp_skip ?_
     refine n_then ?_
     refine wp_seq ?_
     refine rg ?_
     refine st (mvS rfl) ?_
     refine st (mvI rfl) ?_
     refine st (y_ix hV.sl sl22 rfl (hbf.vl.symm) rfl (by omega) (by omega)) ?_
     refine st (y_le hV.sl na3 rfl (by omega) (by omega) rfl) ?_
     refine sd (d_bsO (lo := w104.heap.size) (enc := encI) (l := [_]) (sz := 1) (fun _ => rfl) (bsl22_1 _ _) rfl rfl (by unfold maxLen; omega) (by omega) ?_)
     intro b1 w128 hbb1 hs130 ho129 hna
     have hz131 := ho129.size
     replace hN := hN.ext ho129
     replace hT := hT.ext ho129
     replace hE := hE.step ho129 (.inl (Nat.le_refl _))
     replace hb4 := hb4.ext ho129
     replace hV := hV.ext ho129
     replace hSn := hSn.ext ho129
     replace hAr := hAr.ext ho129
     replace hGr := hGr.ext ho129
     replace hlp3 := hlp3.step ho129 (.inl (Nat.le_refl _))
     replace hb20 := hb20.ext ho129
     refine st (mvS rfl) ?_
     have hrhna := hna.rng
     refine sd (d_appN (xs := arcs) hna sl22 infoz3 (by decide) rfl rfl rfl (rfl) (hAr.sl) (fun _ => rfl) (by simp; unfold maxLen; omega) (by simp; omega) (by omega) (by omega) ?_)
     intro aa1 ca1 w132 ho133 hna'
     have hs134 := ho133.size
     clear hna; have hna := hna'; clear hna'
     have hz137 := ho133.size
     replace hN := hN.out ho133 (by first | omega | (simp only [blk_some, hi1_some] at *; omega))
     replace hT := hT.out ho133 (by first | omega | (simp only [blk_some, hi1_some] at *; omega))
     replace hE := hE.step ho133 (by first | omega | (simp only [blk_some, hi1_some] at *; omega))
     replace hb4 := hb4.out ho133 (by first | omega | (simp only [blk_some, hi1_some] at *; omega))
     replace hV := hV.out ho133 (by first | omega | (simp only [blk_some, hi1_some] at *; omega))
     replace hSn := hSn.out ho133 (by first | omega | (simp only [blk_some, hi1_some] at *; omega))
     replace hAr := hAr.out ho133 (by first | omega | (simp only [blk_some, hi1_some] at *; omega))
     replace hGr := hGr.out ho133 (by first | omega | (simp only [blk_some, hi1_some] at *; omega))
     replace hlp3 := hlp3.step ho133 (by first | omega | (simp only [blk_some, hi1_some] at *; omega))
     replace hb20 := hb20.out ho133 (by first | omega | (simp only [blk_some, hi1_some] at *; omega))
     refine st (mvI rfl) ?_
     refine sd (d_bsO (lo := w132.heap.size) (enc := encI) (l := [_]) (sz := 1) (fun _ => rfl) (bsl22_1 _ _) rfl rfl (by unfold maxLen; omega) (by omega) ?_)
     intro b2_ w138 hbb2_ hs140 ho139 hnb
     have hz141 := ho139.size
     replace hN := hN.ext ho139
     replace hT := hT.ext ho139
     replace hE := hE.step ho139 (.inl (Nat.le_refl _))
     replace hb4 := hb4.ext ho139
     replace hV := hV.ext ho139
     replace hSn := hSn.ext ho139
     replace hAr := hAr.ext ho139
     replace hGr := hGr.ext ho139
     replace hlp3 := hlp3.step ho139 (.inl (Nat.le_refl _))
     replace hb20 := hb20.ext ho139
     replace hna := hna.ext ho139
     refine st (mvS rfl) ?_
     have hrhnb := hnb.rng
     refine sd (d_appN (xs := signs) hnb sl22 infoz3 (by decide) rfl rfl rfl (rfl) (hGr.sl) (fun _ => rfl) (by simp; unfold maxLen; omega) (by simp; omega) (by omega) (by omega) ?_)
     intro ag1 cg1 w142 ho143 hnb'
     have hs144 := ho143.size
     clear hnb; have hnb := hnb'; clear hnb'
     have hz147 := ho143.size
     replace hN := hN.out ho143 (by first | omega | (simp only [blk_some, hi1_some] at *; omega))
     replace hT := hT.out ho143 (by first | omega | (simp only [blk_some, hi1_some] at *; omega))
     replace hE := hE.step ho143 (by first | omega | (simp only [blk_some, hi1_some] at *; omega))
     replace hb4 := hb4.out ho143 (by first | omega | (simp only [blk_some, hi1_some] at *; omega))
     replace hV := hV.out ho143 (by first | omega | (simp only [blk_some, hi1_some] at *; omega))
     replace hSn := hSn.out ho143 (by first | omega | (simp only [blk_some, hi1_some] at *; omega))
     replace hAr := hAr.out ho143 (by first | omega | (simp only [blk_some, hi1_some] at *; omega))
     replace hGr := hGr.out ho143 (by first | omega | (simp only [blk_some, hi1_some] at *; omega))
     replace hlp3 := hlp3.step ho143 (by first | omega | (simp only [blk_some, hi1_some] at *; omega))
     replace hb20 := hb20.out ho143 (by first | omega | (simp only [blk_some, hi1_some] at *; omega))
     have hrnhna := hna.rng
     replace hna := hna.out ho143 (by first | omega | (simp only [blk_some, hi1_some] at *; omega))
     refine st (asS rfl) ?_
     refine st (asS rfl) ?_
     refine rg_end ?_
     refine n_then ?_
     refine rg ?_
     refine st (y_fld fld36_1 rfl) ?_
     refine st (y_lb hb20 na3 rfl rfl) ?_
     refine st (y_fld fld36_2 rfl) ?_
     refine st (y_lb hb20 na3 rfl rfl) ?_
     refine st (y_add rfl rfl (by omega)) ?_
     refine st (mvI rfl) ?_
     refine st (y_sub rfl rfl (by omega)) ?_
     refine st (asI rfl) ?_
     refine rg_end ?_
     refine n_blk ?_
     exact n_then ⟨(y, el V x :: arcs, _, y :: xs, _, _, _, _), _, rfl, same_lk rfl (same_h0), ⟨vi hxy, by rfl, by rfl, trivial⟩, ⟨hlp3, y0, y1, hy, hpa1, by simp only [List.length_cons]; omega, (hna.lower (by omega)).wide (by omega), (hnb.lower (by omega)).wide (by omega)⟩, hry⟩
   ·
    try simp only [nm] at hc6
    refine wp_exit ?_
    refine e_then (e_then (e_blk (?_)))
    refine n_then ?_
    refine wp_seq ?_
    refine rg ?_
    refine st (mvS rfl) ?_
    refine st (mvS rfl) ?_
    refine st (asS rfl) ?_
    refine st (asS rfl) ?_
    refine st (asB rfl) ?_
    refine rg_end ?_
    refine n_then ?_
    refine wp_ret ?_
    refine ret3 (v := (.slice _ _ _)) (v' := (.slice _ _ _)) (v'' := (.bool _)) Try.results50 rfl rfl rfl ?_
    have hxe : x = src := hc6
    subst hxe
    exact ⟨aa, ca, ag, cg, arcs, signs, xs, rk, rfl, Sl.wide (Ow.sl hAr) (by omega) (by omega), Sl.wide (Ow.sl hGr) (by omega) (by omega), hpa, by omega, hE⟩
end Go.Proofs.Ytclligkngjhihaa
