/-
  Walks of the functions, printed by a program out of the code and the loops' relations.
-/
import Derived.Test.YtclligkngjhihaaWkH
import Derived.Test.YtclligkngjhihaaProg
import Derived.KernelRfl
import Derived.Test.YtclligkngjhihaaE4
namespace Go.Proofs.Ytclligkngjhihaa
open Go.Wk Go.RowKit
set_option linter.unusedVariables false
set_option linter.unusedSimpArgs false
theorem cl73 : Callable Try.prog 73 := ⟨Try.call73⟩
theorem cl79 : Callable Try.prog 79 := ⟨Try.call79⟩
theorem cl80 : Callable Try.prog 80 := ⟨Try.call80⟩

def rE (s : Sr) : Int := if s.over = true then 15 else if s.found = false then 14 else 0
theorem fE_err {N : Net} {all : Bool} {B : Int} (h : nsE N B ≠ 0) : findE N all B = nsE N B ∧ findT N all B = [] ∧ findC N all B = 0 ∧ findU N all B = 0 := by
  have e : findE N all B = nsE N B ∧ (nsE N B = 1 ∨ nsE N B = 4) := by
    unfold findE nsE at *
    by_cases h1 : netOk N = true
    · simp only [h1, if_true] at h ⊢
      by_cases h2 : 1 ≤ B ∧ B ≤ 1048576
      · simp [h2] at h
      · simp [h2]
    · simp [h1]
  obtain ⟨e, h2⟩ := e
  refine ⟨e, ?_, ?_, ?_⟩
  · unfold findT; rw [e, if_neg h]
  · unfold findC; rw [e, if_neg h]
  · unfold findU; rw [e, if_neg (by omega)]
theorem fE_ok {N : Net} {all : Bool} {B : Int} (h : nsE N B = 0) : netOk N = true ∧ (1 ≤ B ∧ B ≤ 1048576) ∧ findE N all B = rE (findS N all B) := by
  unfold nsE at h
  by_cases h1 : netOk N = true
  · by_cases h2 : 1 ≤ B ∧ B ≤ 1048576
    · exact ⟨h1, h2, by unfold findE rE; rw [if_pos h1, if_pos h2]⟩
    · simp [h1, h2] at h
  · simp [h1] at h
theorem find0 {N : Net} {all : Bool} {B : Int} (h : findE N all B = 0) : findT N all B = (findS N all B).res ∧ findC N all B = (findS N all B).best ∧ findU N all B = (findS N all B).used := ⟨by unfold findT; rw [if_pos h], by unfold findC; rw [if_pos h], by unfold findU; rw [if_pos (.inl h)]⟩
theorem find14 {N : Net} {all : Bool} {B : Int} (h : findE N all B = 14) : findT N all B = [] ∧ findC N all B = 0 ∧ findU N all B = (findS N all B).used := ⟨by unfold findT; rw [if_neg (by omega)], by unfold findC; rw [if_neg (by omega)], by unfold findU; rw [if_pos (.inr h)]⟩
theorem find15 {N : Net} {all : Bool} {B : Int} (h : ¬ findE N all B = 0) (h2 : ¬ findE N all B = 14) : findT N all B = [] ∧ findC N all B = 0 ∧ findU N all B = 0 := ⟨by unfold findT; rw [if_neg h], by unfold findC; rw [if_neg h], by unfold findU; rw [if_neg (by omega)]⟩
theorem nilI (lo hi : Nat) (w : World) : Ints lo hi w none [] := ⟨fun h => absurd rfl h, fun i x hx => by simp at hx⟩

set_option maxHeartbeats 1000000 in
set_option maxRecDepth 100000 in
theorem search_run_ok (N : Net) (A : NetA) (lo0 hi0 bs bt hi : Nat) (all : Bool) (B : Int) (s : Sr) (w : World) (hN : NetIn lo0 hi0 w N A) (hM : SMem bs bt hi w N A all B s) (hok : NetOk N) (h00 : hi0 ≤ bs)  : Cal Try.prog 80 [.pointer (some ⟨bs, 0, none⟩)] w (fun v w' => v = .int .i64 (rE (srch N all B N.evs.length 0 s).2) ∧ SMem bs bt hi w' N A all B (srch N all B N.evs.length 0 s).2 ∧ Out bs (bt + 1) w w') := by
 obtain ⟨al, cl, ac, cc, ar, cr, L, rows, hbs, hL, hlim, hH, hRl, hrs, hcls, hT, hsi, hres, hb1, hb2, hb3⟩ := hM.ex
 have hbl := hbs.lt
 have hne := hok.ev
 have hna := hok.ac
 have hp2 := hok.p2
 have hp7 := hok.p7
 have hE : Out bs (bt + 1) w w := Out.refl _ _ w
 refine enter Try.func80 rfl Try.ntmps80 rfl ?_
 refine wp_seq ?_
 refine rg ?_
 refine st (asI rfl) ?_
 refine rg_end ?_
 refine n_then ?_
 refine wp_seq ?_
 refine rg ?_
 refine st (asI rfl) ?_
 refine rg_end ?_
 refine n_then ?_
 refine wp_seq ?_
 refine wp_seq ?_
 refine rg ?_
 refine st (mvP rfl) ?_
 refine st (y_nil rfl) ?_
 refine st (y_fld fld116_0 rfl) ?_
 refine st (y_fld fld26_2 rfl) ?_
 refine st (y_lb hbs na24 rfl rfl) ?_
 refine st (y_len Try.underlying24 rfl) ?_
 refine st (mvI rfl) ?_
 refine rg_end ?_
 refine n_then ?_
 refine wp_block ?_
 refine lp (γ := Nat × Int) [3, 5, 12, 13, 14, 15, 16, 17, 18, 19, 20, 21, 22, 23] (fun ⟨k, c⟩ => [(12, .int .i64 (k : Int)), (3, .int .i64 c)]) (fun ⟨k, c⟩ w_ => Ext w w_ ∧ (k : Int) ≤ N.acts.length ∧ c = sumC (fun a => a.wt * a.mn) (N.acts.take k)) (fun ⟨k, c⟩ => N.acts.length - k) (0, 0) ⟨rfl, rfl, trivial⟩ ⟨Out.refl _ _ _, by simp, by simp [sumC]⟩ ?_
 rintro ⟨k, c⟩ hav_ w1 ⟨ho2, hk, hc⟩
 have hlp0 := ho2
 have hz3 := ho2.size
 replace hbs := hbs.ext ho2
 replace hL := hL.ext ho2
 replace hH := hH.ext ho2
 replace hrs := hrs.ext ho2
 replace hT := hT.ext ho2
 replace hres := hres.ext ho2
 replace hN := hN.ext ho2
 replace hE := hE.step ho2 (.inl (Nat.le_refl _))
 refine wp_seq ?_
 refine rg ?_
 refine st (y_lss rfl rfl) ?_
 refine rg_end ?_
 refine n_then ?_
 refine wp_seq ?_
 refine cnd rfl (fun hc0 => ?_) (fun hc0 => ?_)
 ·
  try simp only [nm] at hc0
  have ok := hok.acs _ (el_mem (l := N.acts) (i := (k : Int)) (by omega) hc0)
  have hpr := prodB ok.w0 ok.w1 (b := (el N.acts (k : Int)).mn) (B := 65536) ok.m0 (by have := ok.m1; have := ok.m2; omega)
  have hbb := base_bound hok k
  refine wp_skip ?_
  refine n_then ?_
  refine wp_seq ?_
  refine wp_block ?_
  refine wp_seq ?_
  refine rg ?_
  refine st (y_ix hN.a sl24 rfl (rfl) rfl (by omega) (by omega)) ?_
  refine st (y_lw hN.a agg36 rfl (by omega) (by omega)) ?_
  refine sd (d_allocA zer36 ?_)
  intro b5 w4 hbb5 hs6 ho5 hb5
  have hz7 := ho5.size
  replace hbs := hbs.ext ho5
  replace hL := hL.ext ho5
  replace hH := hH.ext ho5
  replace hrs := hrs.ext ho5
  replace hT := hT.ext ho5
  replace hres := hres.ext ho5
  replace hN := hN.ext ho5
  replace hE := hE.step ho5 (.inl (Nat.le_refl _))
  replace hlp0 := hlp0.step ho5 (.inl (Nat.le_refl _))
  refine sd0 (d_stN hb5 rfl rfl sz36 rfl rfl ?_)
  intro w8 hs10 ho9 hb5'
  clear hb5; have hb5 := hb5'; clear hb5'
  have hz11 := ho9.size
  replace hbs := hbs.out ho9 (by first | omega | (simp only [blk_some, hi1_some] at *; omega))
  replace hL := hL.out ho9 (by first | omega | (simp only [blk_some, hi1_some] at *; omega))
  replace hH := hH.out ho9 (by first | omega | (simp only [blk_some, hi1_some] at *; omega))
  replace hrs := hrs.out ho9 (by first | omega | (simp only [blk_some, hi1_some] at *; omega))
  have hrnhT := hT.rng
  replace hT := hT.out ho9 (by first | omega | (simp only [blk_some, hi1_some] at *; omega))
  replace hres := hres.out ho9 (by first | omega | (simp only [blk_some, hi1_some] at *; omega))
  replace hN := hN.out ho9 (by first | omega | (simp only [blk_some, hi1_some] at *; omega))
  replace hE := hE.step ho9 (by first | omega | (simp only [blk_some, hi1_some] at *; omega))
  replace hlp0 := hlp0.step ho9 (by first | omega | (simp only [blk_some, hi1_some] at *; omega))
  refine rg_end ?_
  refine n_then ?_
  refine rg ?_
  refine st (mvI rfl) ?_
  refine st (y_fld fld36_5 rfl) ?_
  refine st (y_lb hb5 na3 rfl rfl) ?_
  refine st (y_fld fld36_3 rfl) ?_
  refine st (y_lb hb5 na3 rfl rfl) ?_
  refine st (y_mul rfl rfl (by omega)) ?_
  refine st (y_add rfl rfl (by omega)) ?_
  refine st (asI rfl) ?_
  refine rg_end ?_
  refine n_blk ?_
  refine n_then ?_
  refine rg ?_
  refine st (y_add rfl rfl (by omega)) ?_
  refine st (mvI rfl) ?_
  refine rg_end ?_
  exact n_then ⟨(k + 1, _), _, rfl, same_lk rfl (same_h0), ⟨rfl, rfl, trivial⟩, ⟨hlp0, by omega, by rw [tkS hc0, sumC_snoc, hc]⟩, by first | omega | (dsimp only; omega)⟩
 ·
  try simp only [nm] at hc0
  rw [tkE hc0] at hc
  have hc' : c = costTo N s.t ((0 : Nat) : Int) := by rw [hc]; exact (cost0 hok).symm
  have hMr : SMem bs bt hi _ N A all B s := ⟨al, cl, ac, cc, ar, cr, L, rows, hbs, hL, hlim, hH, hRl, hrs, hcls, hT, hsi, Sl.wide hres (Nat.le_refl _) (by omega), hb1, hb2, by omega⟩
  refine wp_exit ?_
  refine e_then (e_then (e_blk (?_)))
  refine n_then ?_
  refine wp_seq ?_
  refine rg ?_
  refine st (mvP rfl) ?_
  refine st (mvI rfl) ?_
  refine sc cl83 (search_extend_ok N A _ _ bs bt hi all B hok h00 N.evs.length 0 s _ _ hN hMr (by omega) hc') rfl ?_
  rintro v16 w12 ⟨rfl, hM2, ho13⟩
  obtain ⟨al, cl, ac, cc, ar, cr, L, rows, hbs, hL, hlim, hH, hRl, hrs, hcls, hT, hsi, hres, hb1, hb2, hb3⟩ := hM2.ex
  have hbl := hbs.lt
  have hz17 := ho13.size
  replace hN := hN.out ho13 (by first | omega | (simp only [blk_some, hi1_some] at *; omega))
  replace hE := hE.step ho13 (by first | omega | (simp only [blk_some, hi1_some] at *; omega))
  refine rg_end ?_
  refine n_then ?_
  refine wp_seq ?_
  refine wp_block ?_
  refine wp_seq ?_
  refine rg ?_
  refine st (mvP rfl) ?_
  refine st (y_nil rfl) ?_
  refine st (y_fld fld116_7 rfl) ?_
  refine st (y_lb hbs na4 rfl rfl) ?_
  refine st (asB rfl) ?_
  refine rg_end ?_
  refine n_then ?_
  refine cnd rfl (fun hc1 => ?_) (fun hc1 => ?_)
  ·
   try simp only [nm] at hc1
   refine wp_seq ?_
   refine rg ?_
   refine st (asI rfl) ?_
   refine rg_end ?_
   refine n_then ?_
   refine wp_ret ?_
   refine r_blk (r_then (ret1 (v := (.int .i64 _)) Try.results80 rfl ?_))
   exact ⟨vi (by unfold rE; rw [if_pos hc1]), hM2, hE⟩
  ·
   try simp only [nm] at hc1
   refine wp_seq ?_
   refine rg ?_
   refine st (mvP rfl) ?_
   refine st (y_nil rfl) ?_
   refine st (y_fld fld116_10 rfl) ?_
   refine st (y_lb hbs na4 rfl rfl) ?_
   refine st (y_not rfl) ?_
   refine st (asB rfl) ?_
   refine rg_end ?_
   refine n_then ?_
   refine cnd rfl (fun hc2 => ?_) (fun hc2 => ?_)
   ·
    try simp only [nm] at hc2
    refine wp_seq ?_
    refine rg ?_
    refine st (asI rfl) ?_
    refine rg_end ?_
    refine n_then ?_
    refine wp_ret ?_
    refine r_blk (r_then (ret1 (v := (.int .i64 _)) Try.results80 rfl ?_))
    exact ⟨vi (by unfold rE; rw [if_neg (by rw [hc1]; decide), if_pos hc2]), hM2, hE⟩
   ·
    try simp only [nm] at hc2
    refine wp_skip ?_
    refine n_blk ?_
    refine n_then ?_
    refine wp_seq ?_
    refine rg ?_
    refine st (asI rfl) ?_
    refine rg_end ?_
    refine n_then ?_
    refine wp_ret ?_
    refine ret1 (v := (.int .i64 _)) Try.results80 rfl ?_
    exact ⟨vi (by unfold rE; rw [if_neg (by rw [hc1]; decide), if_neg (by rw [hc2]; decide)]), hM2, hE⟩

set_option maxHeartbeats 1000000 in
set_option maxRecDepth 100000 in
theorem search_find_ok (N : Net) (A : NetA) (lo hi : Nat) (B : Int) (all : Bool) (w : World) (hN : NetIn lo hi w N A)  : Cal Try.prog 73 [netV N A, .int .i64 B, .bool all] w (fun v w' => ∃ at_ ct, v = .tuple #[.slice at_ (findT N all B).length ct, .int .i64 (findC N all B), .int .i64 (findU N all B), .int .i64 (findE N all B)] ∧ Ints w.heap.size w'.heap.size w' at_ (findT N all B) ∧ Ext w w') := by
 replace hN := hN.full
 have hE : Out 0 0 w w := Out.refl _ _ w
 refine enter Try.func73 rfl Try.ntmps73 rfl ?_
 refine wp_seq ?_
 refine rg ?_
 refine sd (d_boxA rfl ?_)
 intro bq w1 hbbq hs3 ho2 hbq
 have hz4 := ho2.size
 replace hN := hN.ext ho2
 replace hE := hE.step ho2 (.inl (Nat.le_refl _))
 refine st (asS rfl) ?_
 refine st (asI rfl) ?_
 refine st (asI rfl) ?_
 refine st (asI rfl) ?_
 refine rg_end ?_
 refine n_then ?_
 refine wp_seq ?_
 refine rg ?_
 refine st (y_lbN hbq agg26 rfl) ?_
 refine st (mvI rfl) ?_
 refine st (mvB rfl) ?_
 refine sc cl79 (search_newState_ok N A _ _ B all _ hN) rfl ?_
 rintro v9 w5 ⟨p, e, rfl, he, hp0, hp1, ho6⟩
 have hz10 := ho6.size
 replace hN := hN.ext ho6
 replace hE := hE.step ho6 (.inl (Nat.le_refl _))
 replace hbq := hbq.ext ho6
 refine st (mvT rfl) ?_
 refine st (y_ext rfl rfl) ?_
 refine st (y_ext rfl rfl) ?_
 refine st (asP rfl) ?_
 refine st (asI rfl) ?_
 refine rg_end ?_
 refine n_then ?_
 refine wp_seq ?_
 refine wp_seq ?_
 refine rg ?_
 refine st (mvI rfl) ?_
 refine st (y_neq rfl rfl) ?_
 refine rg_end ?_
 refine n_then ?_
 refine cnd rfl (fun hc0 => ?_) (fun hc0 => ?_)
 ·
  try simp only [nm] at hc0
  obtain ⟨g1, g2, g3, g4⟩ := fE_err (all := all) (show nsE N B ≠ 0 by rw [← he]; exact hc0)
  refine wp_seq ?_
  refine rg ?_
  refine st (mvI rfl) ?_
  refine st (asS rfl) ?_
  refine st (asI rfl) ?_
  refine st (asI rfl) ?_
  refine st (asI rfl) ?_
  refine rg_end ?_
  refine n_then ?_
  refine wp_ret ?_
  refine r_then (ret4 (v := (.slice _ _ _)) (v' := (.int .i64 _)) (v'' := (.int .i64 _)) (v3 := (.int .i64 _)) Try.results73 rfl rfl rfl rfl ?_)
  rw [g1, g2, g3, g4]
  exact ⟨none, 0, by rw [he]; rfl, nilI _ _ _, hE⟩
 ·
  try simp only [nm] at hc0
  obtain ⟨hnk, hB, hfe⟩ := fE_ok (all := all) (he.symm.trans hc0)
  have hok := netOk_iff.1 hnk
  obtain ⟨bs, bt, hi, rfl, hbs0, hM⟩ := hp1 hc0
  refine wp_skip ?_
  refine n_then ?_
  refine wp_seq ?_
  refine rg ?_
  refine st (mvP rfl) ?_
  refine sc cl80 (search_run_ok N A _ _ bs bt hi all B (start0 N.evs.length) _ hN hM hok (by omega)) rfl ?_
  rintro v15 w11 ⟨rfl, hM2, ho12⟩
  obtain ⟨al, cl, ac, cc, ar, cr, L, rows, hbs, hL, hlim, hH, hRl, hrs, hcls, hT, hsi, hres, hb1, hb2, hb3⟩ := hM2.ex
  have hbl := hbs.lt
  have hz16 := ho12.size
  replace hN := hN.out ho12 (by first | omega | (simp only [blk_some, hi1_some] at *; omega))
  replace hE := hE.step ho12 (by first | omega | (simp only [blk_some, hi1_some] at *; omega))
  replace hbq := hbq.out ho12 (by first | omega | (simp only [blk_some, hi1_some] at *; omega))
  refine st (asI rfl) ?_
  refine rg_end ?_
  refine n_then ?_
  refine wp_seq ?_
  refine rg ?_
  refine st (mvI rfl) ?_
  refine rg_end ?_
  refine n_then ?_
  refine wp_block ?_
  refine wp_seq ?_
  refine rg ?_
  refine st (y_eql rfl rfl) ?_
  refine st (asB rfl) ?_
  refine rg_end ?_
  refine n_then ?_
  refine cnd rfl (fun hc1 => ?_) (fun hc1 => ?_)
  ·
   try simp only [nm] at hc1
   obtain ⟨g1, g2, g3⟩ := find0 (hfe.trans hc1)
   refine wp_seq ?_
   refine rgD 14 (fun w_ => Ext w11 w_) (fun i => false) mixed (by kernel_rfl) ?_
   intro w17 ho18 hs19
   refine ⟨ho18, ?_⟩
   have hx20 := ho18
   refine tn rfl (fun _ hG => mvP rfl) ?_
   refine tn rfl (fun _ hG => y_nil rfl) ?_
   refine tn rfl (fun _ hG => y_fld fld116_8 rfl) ?_
   refine tn rfl (fun _ hG => y_lb (hbs.ext hG) na22 rfl rfl) ?_
   refine tn rfl (fun _ hG => mvP rfl) ?_
   refine tn rfl (fun _ hG => y_nil rfl) ?_
   refine tn rfl (fun _ hG => y_fld fld116_9 rfl) ?_
   refine tn rfl (fun _ hG => y_lb (hbs.ext hG) na3 rfl rfl) ?_
   refine tn rfl (fun _ hG => mvP rfl) ?_
   refine tn rfl (fun _ hG => y_nil rfl) ?_
   refine tn rfl (fun _ hG => y_fld fld116_6 rfl) ?_
   refine tn rfl (fun _ hG => y_lb (hbs.ext hG) na3 rfl rfl) ?_
   refine tn rfl (fun _ hG => asS rfl) ?_
   refine tn rfl (fun _ hG => asI rfl) ?_
   refine t_end ?_
   have hz21 := hx20.size
   replace hN := hN.ext hx20
   replace hE := hE.step hx20 (.inl (Nat.le_refl _))
   replace hbq := hbq.ext hx20
   replace hbs := hbs.ext hx20
   replace hL := hL.ext hx20
   replace hH := hH.ext hx20
   replace hrs := hrs.ext hx20
   replace hT := hT.ext hx20
   replace hres := hres.ext hx20
   replace hM2 := hM2.ext hx20
   refine st (asI rfl) ?_
   refine st (asI rfl) ?_
   refine rg_end ?_
   refine n_then ?_
   refine wp_ret ?_
   refine r_blk (ret4 (v := (.slice _ _ _)) (v' := (.int .i64 _)) (v'' := (.int .i64 _)) (v3 := (.int .i64 _)) Try.results73 rfl rfl rfl rfl ?_)
   rw [g1, g2, g3, hfe.trans hc1]
   exact ⟨ar, cr, rfl, Sl.wide hres (by omega) (by omega), hE⟩
  ·
   try simp only [nm] at hc1
   have hn0 : ¬ findE N all B = 0 := fun h => hc1 (hfe.symm.trans h)
   refine wp_seq ?_
   refine rg ?_
   refine st (y_eql rfl rfl) ?_
   refine st (asB rfl) ?_
   refine rg_end ?_
   refine n_then ?_
   refine cnd rfl (fun hc2 => ?_) (fun hc2 => ?_)
   ·
    try simp only [nm] at hc2
    obtain ⟨g1, g2, g3⟩ := find14 (hfe.trans hc2)
    refine wp_seq ?_
    refine rgD 8 (fun w_ => Ext w11 w_) (fun i => false) mixed (by kernel_rfl) ?_
    intro w22 ho23 hs24
    refine ⟨ho23, ?_⟩
    have hx25 := ho23
    refine tn rfl (fun _ hG => mvP rfl) ?_
    refine tn rfl (fun _ hG => y_nil rfl) ?_
    refine tn rfl (fun _ hG => y_fld fld116_6 rfl) ?_
    refine tn rfl (fun _ hG => y_lb (hbs.ext hG) na3 rfl rfl) ?_
    refine tn rfl (fun _ hG => mvI rfl) ?_
    refine tn rfl (fun _ hG => asS rfl) ?_
    refine tn rfl (fun _ hG => asI rfl) ?_
    refine tn rfl (fun _ hG => asI rfl) ?_
    refine t_end ?_
    have hz26 := hx25.size
    replace hN := hN.ext hx25
    replace hE := hE.step hx25 (.inl (Nat.le_refl _))
    replace hbq := hbq.ext hx25
    replace hbs := hbs.ext hx25
    replace hL := hL.ext hx25
    replace hH := hH.ext hx25
    replace hrs := hrs.ext hx25
    replace hT := hT.ext hx25
    replace hres := hres.ext hx25
    replace hM2 := hM2.ext hx25
    refine st (asI rfl) ?_
    refine rg_end ?_
    refine n_then ?_
    refine wp_ret ?_
    refine r_blk (ret4 (v := (.slice _ _ _)) (v' := (.int .i64 _)) (v'' := (.int .i64 _)) (v3 := (.int .i64 _)) Try.results73 rfl rfl rfl rfl ?_)
    rw [g1, g2, g3, hfe]
    exact ⟨none, 0, rfl, nilI _ _ _, hE⟩
   ·
    try simp only [nm] at hc2
    obtain ⟨g1, g2, g3⟩ := find15 hn0 (fun h => hc2 (hfe.symm.trans h))
    refine wp_seq ?_
    refine rg ?_
    refine st (mvI rfl) ?_
    refine st (asS rfl) ?_
    refine st (asI rfl) ?_
    refine st (asI rfl) ?_
    refine st (asI rfl) ?_
    refine rg_end ?_
    refine n_then ?_
    refine wp_ret ?_
    refine r_blk (ret4 (v := (.slice _ _ _)) (v' := (.int .i64 _)) (v'' := (.int .i64 _)) (v3 := (.int .i64 _)) Try.results73 rfl rfl rfl rfl ?_)
    rw [g1, g2, g3, hfe]
    exact ⟨none, 0, rfl, nilI _ _ _, hE⟩

set_option maxRecDepth 100000 in
theorem search_Feasible_ok (N : Net) (A : NetA) (lo hi : Nat) (B : Int) (w : World) (hN : NetIn lo hi w N A)  : Cal Try.prog 61 [netV N A, .int .i64 B] w (fun v w' => ∃ at_ ct, v = .tuple #[.slice at_ (findT N false B).length ct, .int .i64 (findU N false B), .int .i64 (findE N false B)] ∧ Ints w.heap.size w'.heap.size w' at_ (findT N false B) ∧ Ext w w') := by
 replace hN := hN.full
 have hE : Out 0 0 w w := Out.refl _ _ w
 refine enter Try.func61 rfl Try.ntmps61 rfl ?_
 refine wp_seq ?_
 refine rg ?_
 refine sd (d_boxA rfl ?_)
 intro b2 w1 hbb2 hs3 ho2 hb2
 have hz4 := ho2.size
 replace hN := hN.ext ho2
 replace hE := hE.step ho2 (.inl (Nat.le_refl _))
 refine st (asS rfl) ?_
 refine st (asI rfl) ?_
 refine st (asI rfl) ?_
 refine rg_end ?_
 refine n_then ?_
 refine wp_seq ?_
 refine rg ?_
 refine st (y_lbN hb2 agg26 rfl) ?_
 refine st (mvI rfl) ?_
 refine sc cl73 (search_find_ok N A _ _ B false _ hN) rfl ?_
 rintro v9 w5 ⟨at1, ct1, rfl, hT1, ho6⟩
 have hz10 := ho6.size
 replace hN := hN.ext ho6
 replace hE := hE.step ho6 (.inl (Nat.le_refl _))
 replace hb2 := hb2.ext ho6
 refine st (mvT rfl) ?_
 refine st (y_ext rfl rfl) ?_
 refine st (y_ext rfl rfl) ?_
 refine st (y_ext rfl rfl) ?_
 refine st (y_ext rfl rfl) ?_
 refine st (asS rfl) ?_
 refine st (asI rfl) ?_
 refine st (asI rfl) ?_
 refine st (asI rfl) ?_
 refine rg_end ?_
 refine n_then ?_
 refine wp_seq ?_
 refine rg ?_
 refine st (mvS rfl) ?_
 refine st (mvI rfl) ?_
 refine st (mvI rfl) ?_
 refine st (asS rfl) ?_
 refine st (asI rfl) ?_
 refine st (asI rfl) ?_
 refine rg_end ?_
 refine n_then ?_
 refine wp_ret ?_
 refine ret3 (v := (.slice _ _ _)) (v' := (.int .i64 _)) (v'' := (.int .i64 _)) Try.results61 rfl rfl rfl ?_
 exact ⟨at1, ct1, rfl, Sl.wide hT1 (by omega) (by omega), hE⟩
end Go.Proofs.Ytclligkngjhihaa
