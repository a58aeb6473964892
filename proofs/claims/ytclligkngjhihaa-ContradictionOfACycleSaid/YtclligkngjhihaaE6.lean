/-
  Walks of the functions, printed by a program out of the code and the loops' relations.
-/
import Derived.Test.YtclligkngjhihaaWkH
import Derived.Test.YtclligkngjhihaaProg
import Derived.KernelRfl
import Derived.Test.YtclligkngjhihaaE5
namespace Go.Proofs.Ytclligkngjhihaa
open Go.Wk Go.RowKit
set_option linter.unusedVariables false
set_option linter.unusedSimpArgs false
theorem fld88_0 : FieldOf Try.prog 88 0 0 := fun b o w => by simp [Instr.fieldAt, fieldPlace, Instr.sureAddr, Addr.add_lit]
theorem fld88_5 : FieldOf Try.prog 88 5 7 := fun b o w => by simp [Instr.fieldAt, fieldPlace, Instr.sureAddr, Addr.add_lit]
theorem fld88_6 : FieldOf Try.prog 88 6 8 := fun b o w => by simp [Instr.fieldAt, fieldPlace, Instr.sureAddr, Addr.add_lit]
theorem fld88_7 : FieldOf Try.prog 88 7 9 := fun b o w => by simp [Instr.fieldAt, fieldPlace, Instr.sureAddr, Addr.add_lit]
theorem fld88_9 : FieldOf Try.prog 88 9 11 := fun b o w => by simp [Instr.fieldAt, fieldPlace, Instr.sureAddr, Addr.add_lit]

def usedR (s : Sr) : Int := s.used + (if s.over = true then 1 else 0)
theorem usedR_no {s : Sr} (h : s.over = false) : usedR s = s.used := by unfold usedR; rw [h]; simp
/-- The reference's search at block 'bs'; its other blocks lie in [z, bs). -/
structure RMem (z bs : Nat) (w : World) (N : Net) (A : NetA) (all : Bool) (B : Int) (s : Sr) : Prop where
  ex : ∃ bt bf ar cr Fl, Blk w bs [.int .i64 N.p, .slice A.ae N.evs.length A.ce, .slice A.aa N.acts.length A.ca, .slice (some ⟨bf, 0, none⟩) N.evs.length N.evs.length, .int .i64 B, .int .i64 (usedR s), .bool s.over, .bool all, .bool s.found, .int .i64 s.best, .slice ar s.res.length cr, .slice (some ⟨bt, 0, none⟩) s.t.length N.evs.length] ∧ Ow 4 encB 1 z bs w (some ⟨bf, 0, none⟩) N.evs.length Fl ∧ Fl.length = N.evs.length ∧ (∀ p : Nat, p < N.evs.length → el Fl p = fstB (conB N.acts) p) ∧ Ow 3 encI 1 z bs w (some ⟨bt, 0, none⟩) N.evs.length s.t ∧ SInv N B s ∧ Ints (bs + 1) w.heap.size w ar s.res ∧ z ≤ bt ∧ bt < bs ∧ z ≤ bf ∧ bf < bs ∧ bt ≠ bf ∧ bs < w.heap.size
theorem cost_all {N : Net} {t : List Int} (hN : NetOk N) : sumC (fun a => a.wt * durA N t a) N.acts = costTo N t N.evs.length := by
  unfold costTo
  refine sumC_congr _ fun a ha => ?_
  have ok := hN.acs a ha
  unfold termC later
  rw [if_pos (by have := ok.f1; have := ok.t1; omega), dur_slk, Int.mul_add]
theorem dur_bound {N : Net} {t : List Int} (hN : NetOk N) (k : Nat) : -39065600000000 ≤ sumC (fun a => a.wt * durA N t a) (N.acts.take k) ∧ sumC (fun a => a.wt * durA N t a) (N.acts.take k) ≤ 39065600000000 := by
  have h := sumC_bound (f := fun a => a.wt * durA N t a) (B := 76300000000) (N.acts.take k) (fun a ha => by
    have ok := hN.acs a (List.mem_of_mem_take ha)
    have hs := slk_rng (N := N) (t := t) (a := a) hN.p2
    have h7 := hN.p7
    have h1 := prodB ok.w0 ok.w1 (b := durA N t a) (B := 72736) (by rw [dur_slk]; have := ok.m0; omega) (by rw [dur_slk]; have := ok.m1; have := ok.m2; omega)
    show -76300000000 ≤ a.wt * durA N t a ∧ a.wt * durA N t a ≤ 76300000000
    omega)
  have hl := hN.ac
  have h2 : (76300000000 : Int) * (N.acts.take k).length ≤ 39065600000000 := by
    have : ((N.acts.take k).length : Int) ≤ 512 := by simp; omega
    omega
  omega
theorem term_take {N : Net} {t : List Int} {i : Int} (hN : NetOk N) (k : Nat) : -39065600000000 ≤ sumC (termC N t i) (N.acts.take k) ∧ sumC (termC N t i) (N.acts.take k) ≤ 39065600000000 := by
  have h := sumC_bound (f := termC N t i) (B := 76300000000) (N.acts.take k) (fun a ha => term_bound hN (List.mem_of_mem_take ha))
  have hl := hN.ac
  have h2 : (76300000000 : Int) * (N.acts.take k).length ≤ 39065600000000 := by
    have : ((N.acts.take k).length : Int) ≤ 512 := by simp; omega
    omega
  omega
theorem SInv.good {N : Net} {B : Int} {s : Sr} (h : SInv N B s) (hok : NetOk N) : GoodT N s.t := ⟨hok, h.1.1, fun x hx => by
  obtain ⟨j, hj, rfl⟩ := List.mem_iff_getElem.1 hx
  have hl := h.1.1
  have := h.1.2 (j : Int) (by omega) (by omega)
  simpa [el, hj] using this⟩
theorem lpS_over {f : Int → Sr → Bool × Sr} (hf : ∀ x s, (f x s).1 = true → (f x s).2.over = s.over) : ∀ (c : Nat) (x : Int) (s : Sr), (lpS f c x s).1 = true → (lpS f c x s).2.over = s.over
  | 0, x, s, _ => rfl
  | c + 1, x, s, h => by
    have h1 := hf x s
    unfold lpS at h ⊢
    generalize f x s = r at h h1
    obtain ⟨b, s'⟩ := r
    cases b with
    | true => exact (lpS_over hf c (x + 1) s' h).trans (h1 rfl)
    | false => cases h
theorem srch_over {N : Net} {all : Bool} {B : Int} : ∀ (m i : Nat) (s : Sr), (srch N all B m i s).1 = true → (srch N all B m i s).2.over = s.over
  | 0, i, s, _ => rfl
  | m + 1, i, s, h => by
    unfold srch at h ⊢
    refine lpS_over (fun x s hb => ?_) _ _ _ h
    unfold bodyS at hb ⊢
    by_cases h1 : s.used = B
    · rw [if_pos h1] at hb; cases hb
    · rw [if_neg h1] at hb ⊢
      by_cases h2 : skipS N all (stepS i x s) i = true
      · rw [if_pos h2]; rfl
      · rw [if_neg h2] at hb ⊢; exact srch_over m (i + 1) (stepS i x s) hb
theorem okAt_no {N : Net} {t : List Int} {i : Nat} {a : Ac} (ho : OkTo N t i) (ha : a ∈ N.acts) (hl : later a < (i : Int) + 1) (hs : a.mx - a.mn < slk N t a) : okAt N t i = false := by
  rw [← Bool.not_eq_true]
  intro h
  have := (okAt_iff ho).1 h a ha hl
  omega
/-- The cells of a block, but one. -/
structure Rd (bs k : Nat) (w : World) (cs : List Value) : Prop where
  get : ∀ j v, j ≠ k → cs[j]? = some v → w.cell? ⟨bs, j, none⟩ = some v
theorem Rd.ext {bs k : Nat} {w w' : World} {cs : List Value} (h : Rd bs k w cs) (ho : Ext w w') : Rd bs k w' cs := ⟨fun j v hj hv => ho.cell (h.get j v hj hv) (.inr (Nat.zero_le _))⟩
theorem Rd.of {bs k : Nat} {w : World} {cs : List Value} (h : Blk w bs cs) : Rd bs k w cs := ⟨fun j v _ hv => h.cell hv⟩
theorem Rd.set {bs k : Nat} {w : World} {cs : List Value} {u : Value} (h : Blk w bs (cs.set k u)) : Rd bs k w cs := ⟨fun j v hj hv => h.cell (by rw [List.getElem?_set_ne (fun e => hj e.symm)]; exact hv)⟩

set_option maxRecDepth 100000 in
theorem ref17_in_ok (n lo hi : Int) (w : World) : Cal Try.prog 44 [.int .i64 n, .int .i64 lo, .int .i64 hi] w (fun v w' => v = .bool (decide (lo ≤ n ∧ n ≤ hi)) ∧ Ext w w') := by
 have hE : Out 0 0 w w := Out.refl _ _ w
 refine enter Try.func44 rfl Try.ntmps44 rfl ?_
 refine wp_seq ?_
 refine rg ?_
 refine st (asB rfl) ?_
 refine rg_end ?_
 refine n_then ?_
 refine wp_seq ?_
 refine rg ?_
 refine st (mvI rfl) ?_
 refine st (mvI rfl) ?_
 refine st (y_geq rfl rfl) ?_
 refine st (mvB rfl) ?_
 refine gspL 10 rfl (fun hg1 => ?_) (fun hg1 => ?_)
 ·
  have hg1n := hg1; try simp only [nm] at hg1n
  refine stg rfl rfl hg1 (mvI rfl) ?_
  refine stg rfl rfl hg1 (mvI rfl) ?_
  refine stg rfl rfl hg1 (y_leq rfl rfl) ?_
  refine st (y_pickT rfl hg1 (v := .bool _) rfl) ?_
  refine st (asB rfl) ?_
  refine rg_end ?_
  refine n_then ?_
  refine wp_ret ?_
  refine ret1 (v := (.bool _)) Try.results44 rfl ?_
  exact ⟨vb (by simp only [decide_eq_true_eq, decide_eq_false_iff_not, Bool.not_eq_true', Bool.not_eq_eq_eq_not, Bool.not_true, Bool.false_eq_true, false_iff, true_iff, iff_true, iff_false]; omega), hE⟩
 ·
  have hg1n := hg1; try simp only [nm] at hg1n
  refine sts rfl rfl hg1 ?_
  refine sts rfl rfl hg1 ?_
  refine sts rfl rfl hg1 ?_
  refine st (y_pickF rfl hg1 (v := .bool _) rfl) ?_
  refine st (asB rfl) ?_
  refine rg_end ?_
  refine n_then ?_
  refine wp_ret ?_
  refine ret1 (v := (.bool _)) Try.results44 rfl ?_
  exact ⟨vb (by simp only [decide_eq_true_eq, decide_eq_false_iff_not, Bool.not_eq_true', Bool.not_eq_eq_eq_not, Bool.not_true, Bool.false_eq_true, false_iff, true_iff, iff_true, iff_false]; omega), hE⟩

set_option maxRecDepth 100000 in
theorem ref11_Cost_ok (N : Net) (A : NetA) (lo hi : Nat) (t : List Int) (at_ : Option Addr) (ct : Nat) (lt ht : Nat) (w : World) (hN : NetIn lo hi w N A) (hT : Ints lt ht w at_ t)  : Cal Try.prog 76 [netV N A, .slice at_ t.length ct] w (fun v w' => ∃ c e, v = .tuple #[.int .i64 c, .int .i64 e] ∧ (goodT N t = true → c = sumC (fun a => a.wt * durA N t a) N.acts ∧ e = 0) ∧ (goodT N t = false → c = 0 ∧ e = 1) ∧ Ext w w') := by
 replace hN := hN.full
 replace hT := Ints.full hT
 have hE : Out 0 0 w w := Out.refl _ _ w
 refine enter Try.func76 rfl Try.ntmps76 rfl ?_
 refine wp_seq ?_
 refine rg ?_
 refine sd (d_boxA rfl ?_)
 intro b2 w1 hbb2 hs3 ho2 hb2
 have hz4 := ho2.size
 replace hN := hN.ext ho2
 replace hT := hT.ext ho2
 replace hE := hE.step ho2 (.inl (Nat.le_refl _))
 refine st (asI rfl) ?_
 refine st (asI rfl) ?_
 refine rg_end ?_
 refine n_then ?_
 refine wp_seq ?_
 refine wp_seq ?_
 refine rg ?_
 refine st (y_lbN hb2 agg26 rfl) ?_
 refine st (mvS rfl) ?_
 refine sc cl40 (ref11_Good_ok N A _ _ t _ _ _ _ _ hN hT) rfl ?_
 rintro v9 w5 ⟨rfl, ho6⟩
 have hz10 := ho6.size
 replace hN := hN.ext ho6
 replace hT := hT.ext ho6
 replace hE := hE.step ho6 (.inl (Nat.le_refl _))
 replace hb2 := hb2.ext ho6
 refine st (y_not rfl) ?_
 refine rg_end ?_
 refine n_then ?_
 refine cnd rfl (fun hc0 => ?_) (fun hc0 => ?_)
 ·
  try simp only [nm] at hc0
  refine wp_seq ?_
  refine rg ?_
  refine st (asI rfl) ?_
  refine st (asI rfl) ?_
  refine rg_end ?_
  refine n_then ?_
  refine wp_ret ?_
  refine r_then (ret2 (v := (.int .i64 _)) (v' := (.int .i64 _)) Try.results76 rfl rfl ?_)
  exact ⟨0, 1, rfl, (fun h => by rw [hc0] at h; cases h), (fun _ => ⟨rfl, rfl⟩), hE⟩
 ·
  try simp only [nm] at hc0
  have hg := goodT_iff.1 hc0
  have hna := hg.ok.ac
  refine wp_skip ?_
  refine n_then ?_
  refine wp_seq ?_
  refine rg ?_
  refine st (asI rfl) ?_
  refine rg_end ?_
  refine n_then ?_
  refine wp_seq ?_
  refine wp_seq ?_
  refine rg ?_
  refine st (asI rfl) ?_
  refine rg_end ?_
  refine n_then ?_
  refine wp_block ?_
  refine lp (γ := Nat × Int) [6, 7, 12, 13, 14, 15, 16, 17, 18, 19, 20, 21, 22, 23, 24, 25, 26, 27, 28, 29, 30, 31, 32, 33, 34, 35] (fun ⟨k, c⟩ => [(7, .int .i64 (k : Int)), (6, .int .i64 c)]) (fun ⟨k, c⟩ w_ => Ext w5 w_ ∧ (k : Int) ≤ N.acts.length ∧ c = sumC (fun a => a.wt * durA N t a) (N.acts.take k)) (fun ⟨k, c⟩ => N.acts.length - k) (0, 0) ⟨rfl, rfl, trivial⟩ ⟨Out.refl _ _ _, by simp, by simp [sumC]⟩ ?_
  rintro ⟨k, c⟩ hav_ w11 ⟨ho12, hk, hc⟩
  have hlp0 := ho12
  have hz13 := ho12.size
  replace hN := hN.ext ho12
  replace hT := hT.ext ho12
  replace hE := hE.step ho12 (.inl (Nat.le_refl _))
  replace hb2 := hb2.ext ho12
  refine wp_seq ?_
  refine wp_seq ?_
  refine rg ?_
  refine st (mvI rfl) ?_
  refine st (y_fld fld26_2 rfl) ?_
  refine st (y_lb hb2 na24 rfl rfl) ?_
  refine st (y_len Try.underlying24 rfl) ?_
  refine st (y_lss rfl rfl) ?_
  refine rg_end ?_
  refine n_then ?_
  refine cnd rfl (fun hc1 => ?_) (fun hc1 => ?_)
  ·
   try simp only [nm] at hc1
   have ha := hg.ok.acs _ (el_mem (l := N.acts) (i := (k : Int)) (by omega) hc1)
   have hdb := dur_bound (t := t) hg.ok k
   have hdb1 := dur_bound (t := t) hg.ok (k + 1)
   rw [tkS hc1, sumC_snoc] at hdb1
   have hsr := slk_rng (N := N) (t := t) (a := el N.acts (k : Int)) hg.ok.p2
   have hp7 := hg.ok.p7
   have hpr := prodB ha.w0 ha.w1 (b := durA N t (el N.acts (k : Int))) (B := 72736) (by rw [dur_slk]; have := ha.m0; omega) (by rw [dur_slk]; have := ha.m1; have := ha.m2; omega)
   refine wp_skip ?_
   refine n_then ?_
   refine wp_seq ?_
   refine wp_block ?_
   refine rgD 16 (fun w_ => Ext w11 w_) (fun i => Nat.beq i 14) mixed (by kernel_rfl) ?_
   intro w14 ho15 hs16
   refine ⟨ho15, ?_⟩
   have hx17 := ho15
   refine tn rfl (fun _ hG => mvI rfl) ?_
   refine tn rfl (fun _ hG => y_fld fld26_2 rfl) ?_
   refine tn rfl (fun _ hG => y_lb (hb2.ext hG) na24 rfl rfl) ?_
   refine tn rfl (fun _ hG => mvI rfl) ?_
   refine tn rfl (fun _ hG => y_ix (hN.a.ext hG) sl24 rfl (rfl) rfl (by omega) (by omega)) ?_
   refine tn rfl (fun _ hG => y_fld fld36_5 rfl) ?_
   refine tn rfl (fun _ hG => y_lf (hN.a.ext hG) na3 rfl (by omega) (by omega) rfl) ?_
   refine tn rfl (fun _ hG => y_lbN (hb2.ext hG) agg26 rfl) ?_
   refine tn rfl (fun _ hG => mvS rfl) ?_
   refine tn rfl (fun _ hG => y_fld fld26_2 rfl) ?_
   refine tn rfl (fun _ hG => y_lb (hb2.ext hG) na24 rfl rfl) ?_
   refine tn rfl (fun _ hG => mvI rfl) ?_
   refine tn rfl (fun _ hG => y_ix (hN.a.ext hG) sl24 rfl (rfl) rfl (by omega) (by omega)) ?_
   refine tn rfl (fun _ hG => y_lw (hN.a.ext hG) agg36 rfl (by omega) (by omega)) ?_
   refine tc rfl cl64 (ref11_Lasts_ok N A _ _ t _ _ _ _ _ _ (hN.ext hx17) (hT.ext hx17) hg ha) rfl ?_
   rintro v22 w18 ⟨rfl, ho19⟩
   have hx23 := hx17.step ho19 (.inl (Nat.le_refl _))
   have hz24 := ho19.size
   refine ⟨hx23, ?_⟩
   refine tn rfl (fun _ hG => y_mul rfl rfl (by omega)) ?_
   refine t_end ?_
   have hz25 := hx23.size
   replace hN := hN.ext hx23
   replace hT := hT.ext hx23
   replace hE := hE.step hx23 (.inl (Nat.le_refl _))
   replace hb2 := hb2.ext hx23
   replace hlp0 := hlp0.step hx23 (.inl (Nat.le_refl _))
   refine st (y_add rfl rfl (by omega)) ?_
   refine st (asI rfl) ?_
   refine rg_end ?_
   refine n_blk ?_
   refine n_then ?_
   refine rg ?_
   refine st (mvI rfl) ?_
   refine st (y_add rfl rfl (by omega)) ?_
   refine st (asI rfl) ?_
   refine rg_end ?_
   exact n_then ⟨(k + 1, _), _, rfl, same_lk rfl (same_h0), ⟨rfl, rfl, trivial⟩, ⟨hlp0, by omega, by rw [tkS hc1, sumC_snoc, hc]⟩, by first | omega | (dsimp only; omega)⟩
  ·
   try simp only [nm] at hc1
   rw [tkE hc1] at hc
   refine wp_exit ?_
   refine e_then (e_then (e_blk (?_)))
   refine n_then ?_
   refine wp_seq ?_
   refine rg ?_
   refine st (mvI rfl) ?_
   refine st (asI rfl) ?_
   refine st (asI rfl) ?_
   refine rg_end ?_
   refine n_then ?_
   refine wp_ret ?_
   refine ret2 (v := (.int .i64 _)) (v' := (.int .i64 _)) Try.results76 rfl rfl ?_
   exact ⟨c, 0, rfl, (fun _ => ⟨hc, rfl⟩), (fun h => by rw [hc0] at h; cases h), hE⟩

set_option maxHeartbeats 1000000 in
set_option maxRecDepth 100000 in
theorem ref17_discarded_ok (N : Net) (A : NetA) (lo0 hi0 z bs : Nat) (all : Bool) (B : Int) (s : Sr) (i : Nat) (w : World) (hN : NetIn lo0 hi0 w N A) (hM : RMem z bs w N A all B s) (hok : NetOk N) (h00 : hi0 ≤ z) (hi_ : i < N.evs.length) (ho : OkTo N s.t i) : Cal Try.prog 77 [.pointer (some ⟨bs, 0, none⟩), .int .i64 (i : Int)] w (fun v w' => v = .bool (skipS N all s i) ∧ Ext w w') := by
 obtain ⟨bt, bf, ar, cr, Fl, hbs, hF, hFl, hFv, hT, hsi, hres, d1, d2, d3, d4, d5, d6⟩ := hM.ex
 have htl := hsi.1.1
 have hu0 := hsi.2.1
 have hu1 := hsi.2.2.1
 have hu2 := hsi.2.2.2
 have hbl := hbs.lt
 have hne := hok.ev
 have hna := hok.ac
 have hp2 := hok.p2
 have hp7 := hok.p7
 have hgt := hsi.good hok
 have hE : Out 0 0 w w := Out.refl _ _ w
 refine enter Try.func77 rfl Try.ntmps77 rfl ?_
 refine wp_seq ?_
 refine rg ?_
 refine st (asB rfl) ?_
 refine rg_end ?_
 refine n_then ?_
 refine wp_seq ?_
 refine rg ?_
 refine st (asI rfl) ?_
 refine rg_end ?_
 refine n_then ?_
 refine wp_seq ?_
 refine wp_seq ?_
 refine rg ?_
 refine st (asI rfl) ?_
 refine rg_end ?_
 refine n_then ?_
 refine wp_block ?_
 refine lp (γ := Nat × Int) [4, 5, 6, 7, 8, 9, 10, 11, 12, 13, 14, 15, 16, 17, 18, 19, 20, 21, 22, 23, 24, 25, 26, 27, 28, 29, 30, 31, 32, 33, 34, 35, 36, 37, 38, 39, 40, 41, 42, 43, 44, 45, 46, 47, 48, 49, 50, 51, 52, 53, 54, 55, 56, 57, 58, 59, 60, 61, 62, 63] (fun ⟨k, sm⟩ => [(6, .int .i64 (k : Int)), (5, .int .i64 sm)]) (fun ⟨k, sm⟩ w_ => Ext w w_ ∧ (k : Int) ≤ N.acts.length ∧ sm = sumC (termC N s.t ((i : Int) + 1)) (N.acts.take k) ∧ (∀ a ∈ N.acts.take k, later a < (i : Int) + 1 → slk N s.t a ≤ a.mx - a.mn)) (fun ⟨k, sm⟩ => N.acts.length - k) (0, 0) ⟨rfl, rfl, trivial⟩ ⟨Out.refl _ _ _, by simp, by simp [sumC], (fun a h => by simp at h)⟩ ?_
 rintro ⟨k, sm⟩ hav_ w1 ⟨ho2, hk, hsm, hal⟩
 have hlp0 := ho2
 have hz3 := ho2.size
 replace hbs := hbs.ext ho2
 replace hF := hF.ext ho2
 replace hT := hT.ext ho2
 replace hres := hres.ext ho2
 replace hN := hN.ext ho2
 replace hE := hE.step ho2 (.inl (Nat.le_refl _))
 refine wp_seq ?_
 refine wp_seq ?_
 refine rg ?_
 refine st (mvI rfl) ?_
 refine st (mvP rfl) ?_
 refine st (y_nil rfl) ?_
 refine st (y_fld fld88_0 rfl) ?_
 refine st (y_fld fld26_2 rfl) ?_
 refine st (y_lb hbs na24 rfl rfl) ?_
 refine st (y_len Try.underlying24 rfl) ?_
 refine st (y_lss rfl rfl) ?_
 refine rg_end ?_
 refine n_then ?_
 refine cnd rfl (fun hc0 => ?_) (fun hc0 => ?_)
 ·
  try simp only [nm] at hc0
  have ham := el_mem (l := N.acts) (i := (k : Int)) (by omega) hc0
  have ha := hok.acs _ ham
  have htt := term_take (t := s.t) (i := (i : Int) + 1) hok k
  have htt1 := term_take (t := s.t) (i := (i : Int) + 1) hok (k + 1)
  rw [tkS hc0, sumC_snoc] at htt1
  have hp1 := prodB ha.w0 ha.w1 (b := (el N.acts (k : Int)).mn) (B := 65536) ha.m0 (by have := ha.m1; have := ha.m2; omega)
  have hsr := slk_rng (N := N) (t := s.t) (a := (el N.acts (k : Int))) hp2
  have hpr := prodB ha.w0 ha.w1 (b := durA N s.t (el N.acts (k : Int))) (B := 72736) (by rw [dur_slk]; have := ha.m0; omega) (by rw [dur_slk]; have := ha.m1; have := ha.m2; omega)
  refine wp_skip ?_
  refine n_then ?_
  refine wp_seq ?_
  refine wp_block ?_
  refine wp_seq ?_
  refine rg ?_
  refine st (mvP rfl) ?_
  refine st (y_nil rfl) ?_
  refine st (y_fld fld88_0 rfl) ?_
  refine st (y_fld fld26_2 rfl) ?_
  refine st (y_lb hbs na24 rfl rfl) ?_
  refine st (mvI rfl) ?_
  refine st (y_ix hN.a sl24 rfl (rfl) rfl (by omega) (by omega)) ?_
  refine st (y_lw hN.a agg36 rfl (by omega) (by omega)) ?_
  refine sd (d_allocA zer36 ?_)
  intro b7 w4 hbb7 hs6 ho5 hb7
  have hz7 := ho5.size
  replace hbs := hbs.ext ho5
  replace hF := hF.ext ho5
  replace hT := hT.ext ho5
  replace hres := hres.ext ho5
  replace hN := hN.ext ho5
  replace hE := hE.step ho5 (.inl (Nat.le_refl _))
  replace hlp0 := hlp0.step ho5 (.inl (Nat.le_refl _))
  refine sd0 (d_stN hb7 rfl rfl sz36 rfl rfl ?_)
  intro w8 hs10 ho9 hb7'
  clear hb7; have hb7 := hb7'; clear hb7'
  have hz11 := ho9.size
  replace hbs := hbs.out ho9 (by first | omega | (simp only [blk_some, hi1_some] at *; omega))
  have hrnhF := hF.rng
  replace hF := hF.out ho9 (by first | omega | (simp only [blk_some, hi1_some] at *; omega))
  have hrnhT := hT.rng
  replace hT := hT.out ho9 (by first | omega | (simp only [blk_some, hi1_some] at *; omega))
  replace hres := hres.out ho9 (by first | omega | (simp only [blk_some, hi1_some] at *; omega))
  replace hN := hN.out ho9 (by first | omega | (simp only [blk_some, hi1_some] at *; omega))
  replace hE := hE.step ho9 (by first | omega | (simp only [blk_some, hi1_some] at *; omega))
  replace hlp0 := hlp0.step ho9 (by first | omega | (simp only [blk_some, hi1_some] at *; omega))
  refine rg_end ?_
  refine n_then ?_
  refine wp_seq ?_
  refine cut (γ := Unit) [27, 28, 29, 30, 31, 32, 33, 34, 35, 36] (fun _ => [(36, .bool (decide (¬ later (el N.acts (k : Int)) < (i : Int) + 1)))]) (fun _ w_ => Ext w8 w_ ∧ True) ?_ ?_
  ·
   have hcut := Out.refl 0 0 w8
   refine rg ?_
   refine st (y_fld fld36_1 rfl) ?_
   refine st (y_lb hb7 na3 rfl rfl) ?_
   refine st (mvI rfl) ?_
   refine st (y_gtr rfl rfl) ?_
   refine st (mvB rfl) ?_
   refine gspL 31 rfl (fun hg12 => ?_) (fun hg12 => ?_)
   ·
    have hg12n := hg12; try simp only [nm] at hg12n
    refine sts rfl rfl hg12 ?_
    refine sts rfl rfl hg12 ?_
    refine sts rfl rfl hg12 ?_
    refine sts rfl rfl hg12 ?_
    refine st (y_pickT rfl hg12 (v := .bool _) rfl) ?_
    refine rg_end ?_
    exact n_then ⟨(), _, rfl, same_lk rfl (same_rfl), ⟨vb (by rw [decide_eq_true_eq]; unfold later; first | (simp only [decide_eq_true_eq]; omega) | (simp only [true_iff]; omega)), trivial⟩, ⟨hcut, trivial⟩⟩
   ·
    have hg12n := hg12; try simp only [nm] at hg12n
    refine stg rfl rfl hg12 (y_fld fld36_2 rfl) ?_
    refine stg rfl rfl hg12 (y_lb hb7 na3 rfl rfl) ?_
    refine stg rfl rfl hg12 (mvI rfl) ?_
    refine stg rfl rfl hg12 (y_gtr rfl rfl) ?_
    refine st (y_pickF rfl hg12 (v := .bool _) rfl) ?_
    refine rg_end ?_
    exact n_then ⟨(), _, rfl, same_lk rfl (same_rfl), ⟨vb (by rw [decide_eq_true_eq]; unfold later; first | (simp only [decide_eq_true_eq]; omega) | (simp only [true_iff]; omega)), trivial⟩, ⟨hcut, trivial⟩⟩
  ·
   rintro _ hav_ w13 ⟨ho14, _⟩
   have hz15 := ho14.size
   replace hbs := hbs.ext ho14
   replace hF := hF.ext ho14
   replace hT := hT.ext ho14
   replace hres := hres.ext ho14
   replace hN := hN.ext ho14
   replace hE := hE.step ho14 (.inl (Nat.le_refl _))
   replace hlp0 := hlp0.step ho14 (.inl (Nat.le_refl _))
   replace hb7 := hb7.ext ho14
   refine cnd rfl (fun hc1 => ?_) (fun hc1 => ?_)
   ·
    try simp only [nm] at hc1
    have htm : termC N s.t ((i : Int) + 1) (el N.acts (k : Int)) = (el N.acts (k : Int)).wt * (el N.acts (k : Int)).mn := by unfold termC; rw [if_neg hc1]; omega
    have hal1 : ∀ a ∈ N.acts.take (k + 1), later a < (i : Int) + 1 → slk N s.t a ≤ a.mx - a.mn := by
      intro a h1 h2
      rw [tkS hc0] at h1
      rcases List.mem_append.1 h1 with h1 | h1
      · exact hal a h1 h2
      · simp at h1; subst h1; exact absurd h2 hc1
    refine wp_seq ?_
    refine rg ?_
    refine st (mvI rfl) ?_
    refine st (y_fld fld36_5 rfl) ?_
    refine st (y_lb hb7 na3 rfl rfl) ?_
    refine st (y_fld fld36_3 rfl) ?_
    refine st (y_lb hb7 na3 rfl rfl) ?_
    refine st (y_mul rfl rfl (by omega)) ?_
    refine st (y_add rfl rfl (by omega)) ?_
    refine st (asI rfl) ?_
    refine rg_end ?_
    refine n_then ?_
    refine wp_exit ?_
    refine e_then (e_blk (?_))
    refine n_then ?_
    refine rg ?_
    refine st (mvI rfl) ?_
    refine st (y_add rfl rfl (by omega)) ?_
    refine st (asI rfl) ?_
    refine rg_end ?_
    exact n_then ⟨(k + 1, _), _, rfl, same_lk rfl (same_hav rfl (same_lk rfl (same_h0))), ⟨rfl, rfl, trivial⟩, ⟨hlp0, by omega, by rw [tkS hc0, sumC_snoc, htm, hsm], hal1⟩, by first | omega | (dsimp only; omega)⟩
   ·
    try simp only [nm] at hc1
    have htm : termC N s.t ((i : Int) + 1) (el N.acts (k : Int)) = (el N.acts (k : Int)).wt * durA N s.t (el N.acts (k : Int)) := by unfold termC; rw [if_pos hc1, dur_slk, Int.mul_add]
    refine wp_skip ?_
    refine n_then ?_
    refine wp_seq ?_
    refine rgD 9 (fun w_ => Ext w13 w_) (fun i => false) mixed (by kernel_rfl) ?_
    intro w16 ho17 hs18
    refine ⟨ho17, ?_⟩
    have hx19 := ho17
    refine tn rfl (fun _ hG => mvP rfl) ?_
    refine tn rfl (fun _ hG => y_nil rfl) ?_
    refine tn rfl (fun _ hG => y_fld fld88_0 rfl) ?_
    refine tn rfl (fun _ hG => y_lbS (ds := [_, _, _]) (hbs.ext hG) agg26 rfl pre3) ?_
    refine tn rfl (fun _ hG => mvP rfl) ?_
    refine tn rfl (fun _ hG => y_nil rfl) ?_
    refine tn rfl (fun _ hG => y_fld fld88_9 rfl) ?_
    refine tn rfl (fun _ hG => y_lb (hbs.ext hG) na22 rfl rfl) ?_
    refine tn rfl (fun _ hG => y_lbN (hb7.ext hG) agg36 rfl) ?_
    refine t_end ?_
    have hz20 := hx19.size
    replace hbs := hbs.ext hx19
    replace hF := hF.ext hx19
    replace hT := hT.ext hx19
    replace hres := hres.ext hx19
    replace hN := hN.ext hx19
    replace hE := hE.step hx19 (.inl (Nat.le_refl _))
    replace hlp0 := hlp0.step hx19 (.inl (Nat.le_refl _))
    replace hb7 := hb7.ext hx19
    refine sc cl64 (ref11_Lasts_ok N A _ _ s.t _ _ _ _ _ _ hN (Ow.sl hT) hgt ha) rfl ?_
    rintro v25 w21 ⟨rfl, ho22⟩
    have hz26 := ho22.size
    replace hbs := hbs.ext ho22
    replace hF := hF.ext ho22
    replace hT := hT.ext ho22
    replace hres := hres.ext ho22
    replace hN := hN.ext ho22
    replace hE := hE.step ho22 (.inl (Nat.le_refl _))
    replace hlp0 := hlp0.step ho22 (.inl (Nat.le_refl _))
    replace hb7 := hb7.ext ho22
    refine st (asI rfl) ?_
    refine rg_end ?_
    refine n_then ?_
    refine wp_seq ?_
    refine wp_seq ?_
    refine rg ?_
    refine st (mvI rfl) ?_
    refine st (y_fld fld36_4 rfl) ?_
    refine st (y_lb hb7 na3 rfl rfl) ?_
    refine st (y_gtr rfl rfl) ?_
    refine rg_end ?_
    refine n_then ?_
    refine cnd rfl (fun hc2 => ?_) (fun hc2 => ?_)
    ·
     try simp only [nm] at hc2
     have hoka : okAt N s.t i = false := okAt_no ho ham hc1 (by rw [dur_slk] at hc2; omega)
     refine wp_seq ?_
     refine rg ?_
     refine st (asB rfl) ?_
     refine rg_end ?_
     refine n_then ?_
     refine wp_ret ?_
     refine r_then (r_blk (r_then (r_then (r_blk (r_then (ret1 (v := (.bool _)) Try.results77 rfl ?_))))))
     exact ⟨vb (by unfold skipS; simp [hoka]), hE⟩
    ·
     try simp only [nm] at hc2
     have hal1 : ∀ a ∈ N.acts.take (k + 1), later a < (i : Int) + 1 → slk N s.t a ≤ a.mx - a.mn := by
       intro a h1 h2
       rw [tkS hc0] at h1
       rcases List.mem_append.1 h1 with h1 | h1
       · exact hal a h1 h2
       · simp at h1; subst h1; rw [dur_slk] at hc2; omega
     refine wp_skip ?_
     refine n_then ?_
     refine rg ?_
     refine st (mvI rfl) ?_
     refine st (y_fld fld36_5 rfl) ?_
     refine st (y_lb hb7 na3 rfl rfl) ?_
     refine st (mvI rfl) ?_
     refine st (y_mul rfl rfl (by omega)) ?_
     refine st (y_add rfl rfl (by omega)) ?_
     refine st (asI rfl) ?_
     refine rg_end ?_
     refine n_blk ?_
     refine n_then ?_
     refine rg ?_
     refine st (mvI rfl) ?_
     refine st (y_add rfl rfl (by omega)) ?_
     refine st (asI rfl) ?_
     refine rg_end ?_
     exact n_then ⟨(k + 1, _), _, rfl, same_lk rfl (same_hav rfl (same_lk rfl (same_h0))), ⟨rfl, rfl, trivial⟩, ⟨hlp0, by omega, by rw [tkS hc0, sumC_snoc, htm, hsm], hal1⟩, by first | omega | (dsimp only; omega)⟩
 ·
  try simp only [nm] at hc0
  rw [tkE hc0] at hsm hal
  have hoka : okAt N s.t i = true := (okAt_iff ho).2 hal
  have hcst : sm = costTo N s.t ((i : Int) + 1) := hsm
  refine wp_exit ?_
  refine e_then (e_then (e_blk (?_)))
  refine n_then ?_
  refine wp_seq ?_
  refine rg ?_
  refine st (mvP rfl) ?_
  refine st (y_nil rfl) ?_
  refine st (y_fld fld88_5 rfl) ?_
  refine st (y_lb hbs na4 rfl rfl) ?_
  refine st (mvB rfl) ?_
  refine gspL 68 rfl (fun hg27 => ?_) (fun hg27 => ?_)
  ·
   have hg27n := hg27; try simp only [nm] at hg27n
   refine stg rfl rfl hg27 (mvP rfl) ?_
   refine stg rfl rfl hg27 (y_nil rfl) ?_
   refine stg rfl rfl hg27 (y_fld fld88_6 rfl) ?_
   refine stg rfl rfl hg27 (y_lb hbs na4 rfl rfl) ?_
   refine st (y_pickT rfl hg27 (v := .bool _) rfl) ?_
   refine st (mvB rfl) ?_
   refine gspL 74 rfl (fun hg28 => ?_) (fun hg28 => ?_)
   ·
    have hg28n := hg28; try simp only [nm] at hg28n
    refine stg rfl rfl hg28 (mvI rfl) ?_
    refine stg rfl rfl hg28 (mvP rfl) ?_
    refine stg rfl rfl hg28 (y_nil rfl) ?_
    refine stg rfl rfl hg28 (y_fld fld88_7 rfl) ?_
    refine stg rfl rfl hg28 (y_lb hbs na3 rfl rfl) ?_
    refine stg rfl rfl hg28 (y_geq rfl rfl) ?_
    refine st (y_pickT rfl hg28 (v := .bool _) rfl) ?_
    refine st (asB rfl) ?_
    refine rg_end ?_
    refine n_then ?_
    refine wp_ret ?_
    refine ret1 (v := (.bool _)) Try.results77 rfl ?_
    exact ⟨vb (by unfold skipS; rw [hoka, ← hcst]; cases all <;> cases hz : s.found <;> simp_all), hE⟩
   ·
    have hg28n := hg28; try simp only [nm] at hg28n
    refine sts rfl rfl hg28 ?_
    refine sts rfl rfl hg28 ?_
    refine sts rfl rfl hg28 ?_
    refine sts rfl rfl hg28 ?_
    refine sts rfl rfl hg28 ?_
    refine sts rfl rfl hg28 ?_
    refine st (y_pickF rfl hg28 (v := .bool _) rfl) ?_
    refine st (asB rfl) ?_
    refine rg_end ?_
    refine n_then ?_
    refine wp_ret ?_
    refine ret1 (v := (.bool _)) Try.results77 rfl ?_
    exact ⟨vb (by unfold skipS; rw [hoka, ← hcst]; cases all <;> cases hz : s.found <;> simp_all), hE⟩
  ·
   have hg27n := hg27; try simp only [nm] at hg27n
   refine sts rfl rfl hg27 ?_
   refine sts rfl rfl hg27 ?_
   refine sts rfl rfl hg27 ?_
   refine sts rfl rfl hg27 ?_
   refine st (y_pickF rfl hg27 (v := .bool _) rfl) ?_
   refine st (mvB rfl) ?_
   refine sts rfl rfl rfl ?_
   refine sts rfl rfl rfl ?_
   refine sts rfl rfl rfl ?_
   refine sts rfl rfl rfl ?_
   refine sts rfl rfl rfl ?_
   refine sts rfl rfl rfl ?_
   refine st (y_pickF rfl rfl (v := .bool _) rfl) ?_
   refine st (asB rfl) ?_
   refine rg_end ?_
   refine n_then ?_
   refine wp_ret ?_
   refine ret1 (v := (.bool _)) Try.results77 rfl ?_
   exact ⟨vb (by unfold skipS; rw [hoka, ← hcst]; cases all <;> cases hz : s.found <;> simp_all), hE⟩
end Go.Proofs.Ytclligkngjhihaa
