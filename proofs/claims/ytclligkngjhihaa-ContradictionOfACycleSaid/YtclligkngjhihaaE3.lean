/-
  Walks of the functions, printed by a program out of the code and the loops' relations.
-/
import Derived.Test.YtclligkngjhihaaWkF
import Derived.Test.YtclligkngjhihaaProg
import Derived.KernelRfl
import Derived.Test.YtclligkngjhihaaE2
namespace Go.Proofs.Ytclligkngjhihaa
open Go.Wk Go.RowKit
set_option linter.unusedVariables false
set_option linter.unusedSimpArgs false
theorem bsl22_0  (w : World) : (Instr.buildSlice 22 0 [].toArray).run Try.prog w = .ok (.slice (some ⟨w.heap.size, 0, none⟩) 0 0) (w.alloc (.cells [].toArray 3)) := by kernel_rfl
theorem fld116_0 : FieldOf Try.prog 116 0 0 := fun b o w => by simp [Instr.fieldAt, fieldPlace, Instr.sureAddr, Addr.add_lit]

theorem addS_bound {N : Net} {t : List Int} (hN : NetOk N) : ∀ (l : List Int), (∀ q ∈ l, 0 ≤ q ∧ q < N.acts.length) → 0 ≤ addS N t l ∧ addS N t l ≤ 7549747200 * l.length
  | [], _ => by simp [addS]
  | q :: r, h => by
    have h1 := h q List.mem_cons_self
    have ok := hN.acs _ (el_mem h1.1 h1.2)
    have h2 := addS_bound (t := t) hN r (fun x hx => h x (List.mem_cons_of_mem _ hx))
    have hs := slk_rng (N := N) (t := t) (a := el N.acts q) hN.p2
    have h7 := hN.p7
    have h3 := prodB ok.w0 ok.w1 (b := slk N t (el N.acts q)) (B := 7200) (by omega) (by omega)
    have h4 := Int.mul_nonneg ok.w0 hs.1
    rw [addS, List.length_cons, show (7549747200 : Int) * ((r.length + 1 : Nat) : Int) = 7549747200 * (r.length : Int) + 7549747200 by rw [Int.natCast_add, Int.mul_add]; simp]
    omega
theorem cost0 {N : Net} {t : List Int} (hN : NetOk N) : costTo N t 0 = sumC (fun a => a.wt * a.mn) N.acts := by
  unfold costTo
  refine sumC_congr _ fun a ha => ?_
  have ok := hN.acs a ha
  unfold termC later
  rw [if_neg (by have := ok.f0; omega)]; omega
theorem base_bound {N : Net} (hN : NetOk N) (k : Nat) : -35200000000000 ≤ sumC (fun a => a.wt * a.mn) (N.acts.take k) ∧ sumC (fun a => a.wt * a.mn) (N.acts.take k) ≤ 35200000000000 := by
  have h := sumC_bound (f := fun a => a.wt * a.mn) (B := 68719476736) (N.acts.take k) (fun a ha => by
    have ok := hN.acs a (List.mem_of_mem_take ha)
    have := prodB ok.w0 ok.w1 (b := a.mn) (B := 65536) ok.m0 (by have := ok.m1; have := ok.m2; omega)
    simpa using this)
  have hl := hN.ac
  have h2 : (68719476736 : Int) * (N.acts.take k).length ≤ 35200000000000 := by
    have : ((N.acts.take k).length : Int) ≤ 512 := by simp; omega
    omega
  omega
theorem lpS_go {f : Int → Sr → Bool × Sr} {c x : Nat} {s s' : Sr} (hx : x < c) (h : f (x : Int) s = (true, s')) : lpS f (c - x) (x : Int) s = lpS f (c - (x + 1)) ((x + 1 : Nat) : Int) s' := by
  rw [show c - x = (c - (x + 1)) + 1 by omega, lpS, h]; simp
theorem lpS_no {f : Int → Sr → Bool × Sr} {c x : Nat} {s s' : Sr} (hx : x < c) (h : f (x : Int) s = (false, s')) : lpS f (c - x) (x : Int) s = (false, s') := by
  rw [show c - x = (c - (x + 1)) + 1 by omega, lpS, h]
theorem lpS_end {f : Int → Sr → Bool × Sr} {c x : Nat} {s : Sr} (hx : ¬ x < c) : lpS f (c - x) (x : Int) s = (true, s) := by
  rw [show c - x = 0 by omega, lpS]
theorem body_over {N : Net} {all : Bool} {B : Int} {i : Nat} {rec : Sr → Bool × Sr} {x : Int} {s : Sr} (h : s.used = B) : bodyS N all B i rec x s = (false, { s with over := true }) := by unfold bodyS; rw [if_pos h]
theorem body_skip {N : Net} {all : Bool} {B : Int} {i : Nat} {rec : Sr → Bool × Sr} {x : Int} {s : Sr} (h : ¬ s.used = B) (h2 : skipS N all (stepS i x s) i = true) : bodyS N all B i rec x s = (true, stepS i x s) := by unfold bodyS; rw [if_neg h, if_pos h2]
theorem body_rec {N : Net} {all : Bool} {B : Int} {i : Nat} {rec : Sr → Bool × Sr} {x : Int} {s : Sr} (h : ¬ s.used = B) (h2 : skipS N all (stepS i x s) i = false) : bodyS N all B i rec x s = rec (stepS i x s) := by unfold bodyS; rw [if_neg h, if_neg (by rw [h2]; decide)]
theorem limI_rng {N : Net} {i : Nat} (h : NetOk N) : 1 ≤ limI N i ∧ limI N i ≤ N.p := by
  have := h.p2
  unfold limI; split <;> omega

set_option maxRecDepth 100000 in
theorem clone_I_ok (ad : Option Addr) (c : Nat) (l : List Int) (lo hi : Nat) (w : World) (hL : Ints lo hi w ad l) (hn : (l.length : Int) ≤ 1000000) : Cal Try.prog 59 [.slice ad l.length c] w (fun v w' => ∃ ad' c', v = .slice ad' l.length c' ∧ Ow 3 encI 1 w.heap.size w'.heap.size w' ad' c' l ∧ Ext w w') := by
 replace hL := Ints.full hL
 have hE : Out 0 0 w w := Out.refl _ _ w
 refine enter Try.func59 rfl Try.ntmps59 rfl ?_
 refine wp_seq ?_
 refine rg ?_
 refine st (asS rfl) ?_
 refine rg_end ?_
 refine n_then ?_
 refine wp_seq ?_
 refine wp_seq ?_
 refine rg ?_
 refine st (mvS rfl) ?_
 refine st (y_nilS Try.underlying22 rfl rfl) ?_
 refine rg_end ?_
 refine n_then ?_
 refine cnd rfl (fun hc0 => ?_) (fun hc0 => ?_)
 ·
  try simp only [nm] at hc0
  have hnil : l = [] := by
    cases ad with
    | none => exact Classical.byContradiction fun h => by obtain ⟨⟨b, o, e⟩, _⟩ := hL.plain h; cases e
    | some a => simp at hc0
  refine wp_seq ?_
  refine rg ?_
  refine st (asS rfl) ?_
  refine rg_end ?_
  refine n_then ?_
  refine wp_ret ?_
  refine r_then (ret1 (v := (.slice _ _ _)) Try.results59 rfl ?_)
  subst hnil
  exact ⟨none, 0, rfl, Ow.nil (fun _ => rfl), hE⟩
 ·
  try simp only [nm] at hc0
  have hsome : ad.isSome = true := by cases ad with | none => simp at hc0 | some a => rfl
  refine wp_skip ?_
  refine n_then ?_
  refine wp_seq ?_
  refine rg ?_
  refine sd (d_bs0 (sz := 1) (lo := w.heap.size) (enc := encI) (fun _ => rfl) (bsl22_0 _) rfl (by omega) ?_)
  intro b0 w1 hbb0 hs3 ho2 hm
  have hz5 := ho2.size
  replace hL := hL.ext ho2
  replace hE := hE.step ho2 (.inl (Nat.le_refl _))
  refine st (mvS rfl) ?_
  have hrhm := hm.rng
  refine sd (d_appS (xs := l) hm sl22 infoz3 (by decide) rfl rfl rfl (rfl) (hsome) (hL) (fun _ => rfl) (by simp; unfold maxLen; omega) (by simp; omega) (by omega) (by omega) ?_)
  intro ad2 cc2 w6 ho7 hm'
  have hs8 := ho7.size
  clear hm; have hm := hm'; clear hm'
  have hz11 := ho7.size
  replace hL := hL.out ho7 (by first | omega | (simp only [blk_some, hi1_some] at *; omega))
  replace hE := hE.step ho7 (by first | omega | (simp only [blk_some, hi1_some] at *; omega))
  refine st (asS rfl) ?_
  refine rg_end ?_
  refine n_then ?_
  refine wp_ret ?_
  refine ret1 (v := (.slice _ _ _)) Try.results59 rfl ?_
  exact ⟨ad2, cc2, by simp, by simpa using hm, hE⟩

set_option maxHeartbeats 1000000 in
set_option maxRecDepth 100000 in
theorem search_add_ok (N : Net) (A : NetA) (lo0 hi0 bs bt hi : Nat) (all : Bool) (B : Int) (s : Sr) (i : Nat) (c0 : Int) (w : World) (hN : NetIn lo0 hi0 w N A) (hM : SMem bs bt hi w N A all B s) (hok : NetOk N) (h00 : hi0 ≤ bs) (hi_ : i < N.evs.length) (hc : c0 = costTo N s.t i) : Cal Try.prog 87 [.pointer (some ⟨bs, 0, none⟩), .int .i64 (i : Int), .int .i64 c0] w (fun v w' => ∃ nx, v = .tuple #[.int .i64 nx, .bool (okAt N s.t i)] ∧ (okAt N s.t i = true → nx = costTo N s.t ((i : Int) + 1)) ∧ Ext w w') := by
 obtain ⟨al, cl, ac, cc, ar, cr, L, rows, hbs, hL, hlim, hH, hRl, hrs, hcls, hT, hsi, hres, hb1, hb2, hb3⟩ := hM.ex
 have htl := hsi.1.1
 have hu0 := hsi.2.1
 have hu1 := hsi.2.2.1
 have hu2 := hsi.2.2.2
 have hne := hok.ev
 have hna := hok.ac
 have hp2 := hok.p2
 have hp7 := hok.p7
 have hrow := hrs.row (i : Int) (by omega) (by omega)
 have hrr := hrow.rng
 have hcr : (el rows (i : Int)).l = cls N i := hcls _ (by omega) (by omega)
 have hrl := cls_len N N.acts.length (i : Int)
 rw [show clsTo N N.acts.length (i : Int) = (el rows (i : Int)).l from hcr.symm] at hrl
 have hcb := cost_bound (t := s.t) (i := (i : Int)) hok
 have hE : Out 0 0 w w := Out.refl _ _ w
 refine enter Try.func87 rfl Try.ntmps87 rfl ?_
 refine wp_seq ?_
 refine rg ?_
 refine st (asI rfl) ?_
 refine st (asB rfl) ?_
 refine rg_end ?_
 refine n_then ?_
 refine wp_seq ?_
 refine wp_seq ?_
 refine rg ?_
 refine st (mvP rfl) ?_
 refine st (y_nil rfl) ?_
 refine st (y_fld fld116_2 rfl) ?_
 refine st (y_lb hbs na44 rfl rfl) ?_
 refine st (mvI rfl) ?_
 refine st (y_ix hH sl44 rfl (rfl) rfl (by omega) (by omega)) ?_
 refine st (y_le hH na22 rfl (by omega) (by omega) rfl) ?_
 refine st (y_len Try.underlying22 rfl) ?_
 refine st (mvI rfl) ?_
 refine rg_end ?_
 refine n_then ?_
 refine wp_block ?_
 refine lp (γ := Nat × Int) [2, 6, 7, 9, 10, 11, 20, 21, 22, 23, 24, 25, 26, 27, 28, 29, 30, 31, 32, 33, 34, 35, 36, 37, 38, 39, 40, 41, 42, 43, 44, 45, 46, 47, 48, 49, 50, 51, 52, 53, 54, 55, 56, 57, 58, 59, 60, 61, 62, 63, 64, 65, 66, 67, 68, 69, 70, 71] (fun ⟨k, c⟩ => [(20, .int .i64 (k : Int)), (2, .int .i64 c)]) (fun ⟨k, c⟩ w_ => Ext w w_ ∧ (k : Int) ≤ (el rows (i : Int)).l.length ∧ c = costTo N s.t i + addS N s.t ((el rows (i : Int)).l.take k) ∧ ((el rows (i : Int)).l.take k).all (okA N s.t) = true) (fun ⟨k, c⟩ => (el rows (i : Int)).l.length - k) (0, c0) ⟨rfl, rfl, trivial⟩ ⟨Out.refl _ _ _, by simp, by simp [addS, hc], by simp⟩ ?_
 rintro ⟨k, c⟩ hav_ w1 ⟨ho2, hk, hcc, hall⟩
 have hlp0 := ho2
 have hz3 := ho2.size
 replace hN := hN.ext ho2
 replace hbs := hbs.ext ho2
 replace hH := hH.ext ho2
 replace hT := hT.ext ho2
 replace hrow := hrow.ext ho2
 replace hE := hE.step ho2 (.inl (Nat.le_refl _))
 refine wp_seq ?_
 refine rg ?_
 refine st (y_lss rfl rfl) ?_
 refine rg_end ?_
 refine n_then ?_
 refine wp_seq ?_
 refine cnd rfl (fun hc0 => ?_) (fun hc0 => ?_)
 ·
  try simp only [nm] at hc0
  obtain ⟨q0, q1, q2⟩ := cls_mem (show (el (el rows (i : Int)).l (k : Int)) ∈ clsTo N N.acts.length (i : Int) by rw [← show (el rows (i : Int)).l = clsTo N N.acts.length (i : Int) from hcr]; exact el_mem (by omega) hc0)
  have hq1' : (el (el rows (i : Int)).l (k : Int)) < N.acts.length := q1
  obtain ⟨f0, f1, t0, t1, _, m0, m1, m2, m3, w0, w1⟩ := hok.acs _ (el_mem (l := N.acts) q0 hq1')
  have ht1 := hsi.1.2 (el N.acts (el (el rows (i : Int)).l (k : Int))).tt t0 t1
  have ht2 := hsi.1.2 (el N.acts (el (el rows (i : Int)).l (k : Int))).fr f0 f1
  have hsr := slk_rng (N := N) (t := s.t) (a := el N.acts (el (el rows (i : Int)).l (k : Int))) hp2
  have hpr := prodB w0 w1 (b := slk N s.t (el N.acts (el (el rows (i : Int)).l (k : Int)))) (B := 7200) (by omega) (by omega)
  have hab := addS_bound (t := s.t) hok ((el rows (i : Int)).l.take k) (fun q hq => by have h := cls_mem (show q ∈ clsTo N N.acts.length (i : Int) by rw [← show (el rows (i : Int)).l = clsTo N N.acts.length (i : Int) from hcr]; exact List.mem_of_mem_take hq); exact ⟨h.1, h.2.1⟩)
  have htkl : ((el rows (i : Int)).l.take k).length ≤ 512 := by simp; omega
  refine wp_skip ?_
  refine n_then ?_
  refine wp_seq ?_
  refine wp_block ?_
  refine wp_seq ?_
  refine rg ?_
  refine st (y_ix hrow.sl sl22 rfl (rfl) rfl (by omega) (by omega)) ?_
  refine st (y_le hrow.sl na3 rfl (by omega) (by omega) rfl) ?_
  refine st (asI rfl) ?_
  refine rg_end ?_
  refine n_then ?_
  refine wp_seq ?_
  refine rg ?_
  refine st (mvP rfl) ?_
  refine st (y_nil rfl) ?_
  refine st (y_fld fld116_0 rfl) ?_
  refine st (y_fld fld26_2 rfl) ?_
  refine st (y_lb hbs na24 rfl rfl) ?_
  refine st (mvI rfl) ?_
  refine st (y_ix hN.a sl24 rfl (rfl) rfl (by omega) (by omega)) ?_
  refine st (y_lw hN.a agg36 rfl (by omega) (by omega)) ?_
  refine sd (d_allocA zer36 ?_)
  intro b10 w4 hbb10 hs6 ho5 hb10
  have hz7 := ho5.size
  replace hN := hN.ext ho5
  replace hbs := hbs.ext ho5
  replace hH := hH.ext ho5
  replace hT := hT.ext ho5
  replace hrow := hrow.ext ho5
  replace hE := hE.step ho5 (.inl (Nat.le_refl _))
  replace hlp0 := hlp0.step ho5 (.inl (Nat.le_refl _))
  refine sd0 (d_stN hb10 rfl rfl sz36 rfl rfl ?_)
  intro w8 hs10 ho9 hb10'
  clear hb10; have hb10 := hb10'; clear hb10'
  have hz11 := ho9.size
  replace hN := hN.out ho9 (by first | omega | (simp only [blk_some, hi1_some] at *; omega))
  replace hbs := hbs.out ho9 (by first | omega | (simp only [blk_some, hi1_some] at *; omega))
  replace hH := hH.out ho9 (by first | omega | (simp only [blk_some, hi1_some] at *; omega))
  have hrnhT := hT.rng
  replace hT := hT.out ho9 (by first | omega | (simp only [blk_some, hi1_some] at *; omega))
  have hrnhrow := hrow.rng
  replace hrow := hrow.out ho9 (by first | omega | (simp only [blk_some, hi1_some] at *; omega))
  replace hE := hE.step ho9 (by first | omega | (simp only [blk_some, hi1_some] at *; omega))
  replace hlp0 := hlp0.step ho9 (by first | omega | (simp only [blk_some, hi1_some] at *; omega))
  refine rg_end ?_
  refine n_then ?_
  refine wp_seq ?_
  refine rgD 25 (fun w_ => Ext w8 w_) (fun i => false) mixed (by kernel_rfl) ?_
  intro w12 ho13 hs14
  refine ⟨ho13, ?_⟩
  have hx15 := ho13
  refine tn rfl (fun _ hG => mvP rfl) ?_
  refine tn rfl (fun _ hG => y_nil rfl) ?_
  refine tn rfl (fun _ hG => y_fld fld116_3 rfl) ?_
  refine tn rfl (fun _ hG => y_lb (hbs.ext hG) na22 rfl rfl) ?_
  refine tn rfl (fun _ hG => y_fld fld36_2 rfl) ?_
  refine tn rfl (fun _ hG => y_lb (hb10.ext hG) na3 rfl rfl) ?_
  refine tn rfl (fun _ hG => y_ix (hT.ext hG).sl sl22 rfl (rfl) rfl (by omega) (by omega)) ?_
  refine tn rfl (fun _ hG => y_le (hT.ext hG).sl na3 rfl (by omega) (by omega) rfl) ?_
  refine tn rfl (fun _ hG => mvP rfl) ?_
  refine tn rfl (fun _ hG => y_nil rfl) ?_
  refine tn rfl (fun _ hG => y_fld fld116_3 rfl) ?_
  refine tn rfl (fun _ hG => y_lb (hbs.ext hG) na22 rfl rfl) ?_
  refine tn rfl (fun _ hG => y_fld fld36_1 rfl) ?_
  refine tn rfl (fun _ hG => y_lb (hb10.ext hG) na3 rfl rfl) ?_
  refine tn rfl (fun _ hG => y_ix (hT.ext hG).sl sl22 rfl (rfl) rfl (by omega) (by omega)) ?_
  refine tn rfl (fun _ hG => y_le (hT.ext hG).sl na3 rfl (by omega) (by omega) rfl) ?_
  refine tn rfl (fun _ hG => y_sub rfl rfl (by omega)) ?_
  refine tn rfl (fun _ hG => y_fld fld36_3 rfl) ?_
  refine tn rfl (fun _ hG => y_lb (hb10.ext hG) na3 rfl rfl) ?_
  refine tn rfl (fun _ hG => y_sub rfl rfl (by omega)) ?_
  refine tn rfl (fun _ hG => mvP rfl) ?_
  refine tn rfl (fun _ hG => y_nil rfl) ?_
  refine tn rfl (fun _ hG => y_fld fld116_0 rfl) ?_
  refine tn rfl (fun _ hG => y_fld fld26_0 rfl) ?_
  refine tn rfl (fun _ hG => y_lb (hbs.ext hG) na3 rfl rfl) ?_
  refine t_end ?_
  have hz16 := hx15.size
  replace hN := hN.ext hx15
  replace hbs := hbs.ext hx15
  replace hH := hH.ext hx15
  replace hT := hT.ext hx15
  replace hrow := hrow.ext hx15
  replace hE := hE.step hx15 (.inl (Nat.le_refl _))
  replace hlp0 := hlp0.step hx15 (.inl (Nat.le_refl _))
  replace hb10 := hb10.ext hx15
  refine sc cl81 (arith_Mod_ok _ _ _ (by omega) (by omega) (by omega)) rfl ?_
  rintro v21 w17 ⟨rfl, ho18⟩
  have hz22 := ho18.size
  replace hN := hN.ext ho18
  replace hbs := hbs.ext ho18
  replace hH := hH.ext ho18
  replace hT := hT.ext ho18
  replace hrow := hrow.ext ho18
  replace hE := hE.step ho18 (.inl (Nat.le_refl _))
  replace hlp0 := hlp0.step ho18 (.inl (Nat.le_refl _))
  replace hb10 := hb10.ext ho18
  refine st (asI rfl) ?_
  refine rg_end ?_
  refine n_then ?_
  refine wp_seq ?_
  refine wp_seq ?_
  refine rg ?_
  refine st (mvI rfl) ?_
  refine st (y_fld fld36_4 rfl) ?_
  refine st (y_lb hb10 na3 rfl rfl) ?_
  refine st (y_fld fld36_3 rfl) ?_
  refine st (y_lb hb10 na3 rfl rfl) ?_
  refine st (y_sub rfl rfl (by omega)) ?_
  refine st (y_gtr rfl rfl) ?_
  refine rg_end ?_
  refine n_then ?_
  refine cnd rfl (fun hc1 => ?_) (fun hc1 => ?_)
  ·
   try simp only [nm] at hc1
   have hoka : okAt N s.t i = false := by unfold okAt; rw [← hcr]; exact all_false hc0 (by unfold okA; rw [decide_eq_false_iff_not]; intro h; have : slk N s.t (el N.acts (el (el rows (i : Int)).l (k : Int))) > _ := hc1; omega)
   refine wp_seq ?_
   refine rg ?_
   refine st (asI rfl) ?_
   refine st (asB rfl) ?_
   refine rg_end ?_
   refine n_then ?_
   refine wp_ret ?_
   refine r_then (r_blk (r_then (r_then (r_blk (r_then (ret2 (v := (.int .i64 _)) (v' := (.bool _)) Try.results87 rfl rfl ?_))))))
   exact ⟨0, by rw [hoka], (fun h => by rw [hoka] at h; cases h), hE⟩
  ·
   try simp only [nm] at hc1
   have hq3 : okA N s.t (el (el rows (i : Int)).l (k : Int)) = true := by unfold okA; rw [decide_eq_true_eq]; have : ¬ (_ < slk N s.t (el N.acts (el (el rows (i : Int)).l (k : Int)))) := hc1; omega
   refine wp_skip ?_
   refine n_then ?_
   refine rg ?_
   refine st (mvI rfl) ?_
   refine st (y_fld fld36_5 rfl) ?_
   refine st (y_lb hb10 na3 rfl rfl) ?_
   refine st (mvI rfl) ?_
   refine st (y_mul rfl rfl (by have h : -(1048576 * 7200) ≤ (el N.acts (el (el rows (i : Int)).l (k : Int))).wt * slk N s.t (el N.acts (el (el rows (i : Int)).l (k : Int))) ∧ (el N.acts (el (el rows (i : Int)).l (k : Int))).wt * slk N s.t (el N.acts (el (el rows (i : Int)).l (k : Int))) ≤ 1048576 * 7200 := hpr; unfold slk at h; omega)) ?_
   refine st (y_add rfl rfl (by have h : -(1048576 * 7200) ≤ (el N.acts (el (el rows (i : Int)).l (k : Int))).wt * slk N s.t (el N.acts (el (el rows (i : Int)).l (k : Int))) ∧ (el N.acts (el (el rows (i : Int)).l (k : Int))).wt * slk N s.t (el N.acts (el (el rows (i : Int)).l (k : Int))) ≤ 1048576 * 7200 := hpr; unfold slk at h; omega)) ?_
   refine st (asI rfl) ?_
   refine rg_end ?_
   refine n_blk ?_
   refine n_then ?_
   refine rg ?_
   refine st (y_add rfl rfl (by omega)) ?_
   refine st (mvI rfl) ?_
   refine rg_end ?_
   exact n_then ⟨(k + 1, _), _, rfl, same_lk rfl (same_h0), ⟨rfl, rfl, trivial⟩, ⟨hlp0, by omega, by rw [tkS hc0, addS_snoc]; unfold slk; omega, take_all_succ hc0 hall hq3⟩, by first | omega | (dsimp only; omega)⟩
 ·
  try simp only [nm] at hc0
  rw [tkE hc0, hcr] at hcc hall
  have hoka : okAt N s.t i = true := hall
  refine wp_exit ?_
  refine e_then (e_then (e_blk (?_)))
  refine n_then ?_
  refine wp_seq ?_
  refine rg ?_
  refine st (mvI rfl) ?_
  refine st (asI rfl) ?_
  refine st (asB rfl) ?_
  refine rg_end ?_
  refine n_then ?_
  refine wp_ret ?_
  refine ret2 (v := (.int .i64 _)) (v' := (.bool _)) Try.results87 rfl rfl ?_
  exact ⟨c, by rw [hoka], fun _ => by rw [cost_next, hcc], hE⟩
end Go.Proofs.Ytclligkngjhihaa
