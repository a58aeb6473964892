/-
  Walks of the functions, printed by a program out of the code and the loops' relations.
-/
import Derived.Test.YtdgkaahghlbocaaWkD
import Derived.Test.YtdgkaahghlbocaaProg
import Derived.KernelRfl
import Derived.Test.YtdgkaahghlbocaaK5
namespace Go.Proofs.Ytdgkaahghlbocaa
open Go.Wk Go.RowKit
set_option linter.unusedVariables false
set_option linter.unusedSimpArgs false
theorem cl12 : Callable Try.prog 12 := ⟨Try.call12⟩
theorem cl19 : Callable Try.prog 19 := ⟨Try.call19⟩
theorem cl20 : Callable Try.prog 20 := ⟨Try.call20⟩
theorem cl21 : Callable Try.prog 21 := ⟨Try.call21⟩
theorem cl25 : Callable Try.prog 25 := ⟨Try.call25⟩
theorem cl26 : Callable Try.prog 26 := ⟨Try.call26⟩

theorem dur_mod (N : Net) (t : List Int) (a : Ac) : ∃ m : Int, durA N t a = el t a.tt - el t a.fr + m * N.p := by
  refine ⟨-((el t a.tt - el t a.fr - a.mn) / N.p), ?_⟩
  have h := Int.emod_add_mul_ediv (el t a.tt - el t a.fr - a.mn) N.p
  unfold durA
  rw [Int.neg_mul, Int.mul_comm]
  omega
theorem arc_mod {N : Net} {t arcs signs : List Int} {k : Nat} (h0 : 0 ≤ el arcs (k : Int)) (h1 : el arcs (k : Int) < N.acts.length) (h2 : el signs (k : Int) = 1 ∨ el signs (k : Int) = -1) :
    ∃ m : Int, el signs (k : Int) * el (N.acts.map (durA N t)) (el arcs (k : Int)) = el t (enK N arcs signs k) - el t (stK N arcs signs k) + m * N.p := by
  rw [elMapC h0 h1]
  obtain ⟨m, hm⟩ := dur_mod N t (el N.acts (el arcs (k : Int)))
  rcases h2 with e | e
  · refine ⟨m, ?_⟩
    unfold enK stK cyEn cySt
    rw [e, if_neg (by omega), if_neg (by omega), Int.one_mul, hm]
  · refine ⟨-m, ?_⟩
    unfold enK stK cyEn cySt
    rw [e, if_pos (by omega), if_pos (by omega), hm]
    have hneg := Int.neg_mul m N.p
    omega
theorem tele {N : Net} {t arcs signs : List Int} (hc : CyOk N arcs signs) : ∀ k : Nat, k ≤ arcs.length → ∃ m : Int, totC arcs signs (N.acts.map (durA N t)) k = (if k = 0 then 0 else el t (enK N arcs signs (k - 1)) - el t (stK N arcs signs 0)) + m * N.p
  | 0, _ => ⟨0, by simp [totC]⟩
  | k + 1, hk => by
    obtain ⟨m, hm⟩ := tele (t := t) hc k (by omega)
    obtain ⟨r0, r1, r2⟩ := hc.a.rng k (by omega)
    obtain ⟨m', hm'⟩ := arc_mod (t := t) r0 r1 r2
    refine ⟨m + m', ?_⟩
    rw [totC, hm, hm', if_neg (show ¬ (k + 1 = 0) by omega), Int.add_mul, show k + 1 - 1 = k by omega]
    by_cases e : k = 0
    · subst e; rw [if_pos rfl]; omega
    · rw [if_neg e]
      have hj := hc.b.join (k - 1) (by omega)
      rw [show k - 1 + 1 = k by omega] at hj
      rw [hj]; omega
theorem tot_mod {N : Net} {t arcs signs : List Int} (hc : CyOk N arcs signs) : totC arcs signs (N.acts.map (durA N t)) arcs.length % N.p = 0 := by
  obtain ⟨m, hm⟩ := tele (t := t) hc arcs.length (Nat.le_refl _)
  have h2 := hc.two
  rw [hm, if_neg (by omega), hc.b.close (by omega), show el t (enK N arcs signs (arcs.length - 1)) - el t (enK N arcs signs (arcs.length - 1)) = 0 by omega, Int.zero_add]
  exact Int.mul_emod_left m N.p
theorem ten_good {N : Net} {t : List Int} (hg : GoodT N t) : tenE N t = 0 ∧ tenL N t = N.acts.map (durA N t) ∧ inR N (N.acts.map (durA N t)) = true := by
  have h := goodT_iff.2 hg
  refine ⟨by unfold tenE; rw [if_pos h], by unfold tenL; rw [if_pos h], inR_iff.2 ⟨by simp, fun k hk => ?_⟩⟩
  rw [List.length_map] at hk
  rw [elMapC (by omega) (by omega)]
  have ha := hg.ok.acs _ (el_mem (l := N.acts) (i := (k : Int)) (by omega) (by omega))
  have hp2 := hg.ok.p2
  have hp7 := hg.ok.p7
  obtain ⟨f0, f1, t0, t1, ne, m0, m1, m2, m3, _, _⟩ := ha
  unfold durA
  have hm1 := Int.emod_nonneg (el t (el N.acts (k : Int)).tt - el t (el N.acts (k : Int)).fr - (el N.acts (k : Int)).mn) (b := N.p) (by omega)
  have hm2 := Int.emod_lt_of_pos (el t (el N.acts (k : Int)).tt - el t (el N.acts (k : Int)).fr - (el N.acts (k : Int)).mn) (b := N.p) (by omega)
  omega

set_option maxHeartbeats 1000000 in
set_option maxRecDepth 100000 in
theorem law12_CyclesPeriodicity_ok (a0 : Option Addr) (c0 : Nat) (l0 : List Int) (a1 : Option Addr) (c1 : Nat) (l1 : List Int) (pk : Int) (w : World) (hL0 : Ints 0 w.heap.size w a0 l0) (hl0 : (l0.length : Int) ≤ 9223372036854775807) (hL1 : Ints 0 w.heap.size w a1 l1) (hl1 : (l1.length : Int) ≤ 9223372036854775807) : Cal Try.prog 5 [.slice a0 l0.length c0, .slice a1 l1.length c1, .int .i64 pk] w (fun v w' => v = .bool true ∧ Ext w w') := by
 have hE : Out 0 0 w w := Out.refl _ _ w
 refine enter Try.func5 rfl Try.ntmps5 rfl ?_
 refine wp_seq ?_
 refine rg ?_
 refine st (asB rfl) ?_
 refine rg_end ?_
 refine n_then ?_
 refine wp_seq ?_
 refine rg ?_
 refine st (mvS rfl) ?_
 refine sc cl12 (keep_Network_ok _ _ _ _ _ _ hL0 hl0) rfl ?_
 rintro v5 w1 ⟨N, A, rfl, hsm, hev, hac, hdis, ho2⟩
 have hN : NetIn _ _ _ N A := ⟨Ow.sl hev, Ow.sl hac⟩
 clear hev hac
 have hok := hsm.1
 have hev1 := hok.ev
 have hac8 := hsm.2.2.2.2.2.1
 have hp2 := hsm.2.1
 have hp9 := hsm.2.2.1
 have hz6 := ho2.size
 replace hL0 := hL0.ext ho2
 replace hL1 := hL1.ext ho2
 replace hE := hE.step ho2 (.inl (Nat.le_refl _))
 refine sd (d_allocA zer26 ?_)
 intro b7 w7 hbb7 hs9 ho8 hb7
 have hz10 := ho8.size
 replace hL0 := hL0.ext ho8
 replace hL1 := hL1.ext ho8
 replace hE := hE.step ho8 (.inl (Nat.le_refl _))
 replace hN := hN.ext ho8
 refine sd0 (d_stN hb7 rfl rfl sz26 rfl rfl ?_)
 intro w11 hs13 ho12 hb7'
 clear hb7; have hb7 := hb7'; clear hb7'
 have hz14 := ho12.size
 replace hL0 := hL0.out ho12 (by first | omega | (simp only [blk_some, hi1_some] at *; omega))
 replace hL1 := hL1.out ho12 (by first | omega | (simp only [blk_some, hi1_some] at *; omega))
 replace hE := hE.step ho12 (by first | omega | (simp only [blk_some, hi1_some] at *; omega))
 replace hN := hN.out ho12 (by first | omega | (simp only [blk_some, hi1_some] at *; omega))
 refine rg_end ?_
 refine n_then ?_
 refine wp_seq ?_
 refine rgD 9 (fun w_ => Ext w11 w_) (fun i => Nat.beq i 3 || Nat.beq i 4) mixed (by kernel_rfl) ?_
 intro w15 ho16 hs17
 refine ⟨ho16, ?_⟩
 have hx18 := ho16
 refine tn rfl (fun _ hG => y_lbN (hb7.ext hG) agg26 rfl) ?_
 refine tn rfl (fun _ hG => y_lbN (hb7.ext hG) agg26 rfl) ?_
 refine tn rfl (fun _ hG => mvS rfl) ?_
 refine tc rfl cl20 (keep_Times_ok N A _ _ _ _ _ _ _ _ (hN.ext hx18) (hL1.ext hx18) hl1 (by omega) (by omega)) rfl ?_
 rintro v23 w19 ⟨ax, cx, x, rfl, hX, hxl, hxr, ho20⟩
 have hg : GoodT N x := ⟨hok, hxl, hxr⟩
 obtain ⟨g1, g2, g3⟩ := ten_good hg
 have hx24 := hx18.step ho20 (.inl (Nat.le_refl _))
 have hz25 := ho20.size
 refine ⟨hx24, ?_⟩
 refine tc rfl cl25 (cycles_Tensions_ok N A _ _ x _ _ _ _ _ (hN.ext hx24) hX) rfl ?_
 rintro v30 w26 ⟨ad1, cd1, rfl, hD, ho27⟩
 rw [g2] at hD
 rw [g1, g2]
 have hx31 := hx24.step ho27 (.inl (Nat.le_refl _))
 have hz32 := ho27.size
 replace hX := hX.ext ho27
 refine ⟨hx31, ?_⟩
 refine tn rfl (fun _ hG => mvT rfl) ?_
 refine tn rfl (fun _ hG => y_ext rfl rfl) ?_
 refine tn rfl (fun _ hG => y_ext rfl rfl) ?_
 refine tn rfl (fun _ hG => asS rfl) ?_
 refine t_end ?_
 have hz33 := hx31.size
 replace hL0 := hL0.ext hx31
 replace hL1 := hL1.ext hx31
 replace hE := hE.step hx31 (.inl (Nat.le_refl _))
 replace hN := hN.ext hx31
 replace hb7 := hb7.ext hx31
 refine st (asI rfl) ?_
 refine rg_end ?_
 refine n_then ?_
 refine wp_seq ?_
 refine rg ?_
 refine st (y_lbN hb7 agg26 rfl) ?_
 refine st (mvI rfl) ?_
 refine sc cl21 (law12_cycle_ok N A _ _ pk _ hN) rfl ?_
 rintro v38 w34 ⟨aa, ca, ag, cg, arcs, signs, b, rfl, hAr, hGr, hcy, ho35⟩
 have hz39 := ho35.size
 replace hL0 := hL0.ext ho35
 replace hL1 := hL1.ext ho35
 replace hE := hE.step ho35 (.inl (Nat.le_refl _))
 replace hN := hN.ext ho35
 replace hb7 := hb7.ext ho35
 replace hX := hX.ext ho35
 replace hD := hD.ext ho35
 refine st (mvT rfl) ?_
 refine st (y_ext rfl rfl) ?_
 refine st (y_ext rfl rfl) ?_
 refine sd (d_allocA zer37 ?_)
 intro b10 w40 hbb10 hs42 ho41 hb10
 have hz43 := ho41.size
 replace hL0 := hL0.ext ho41
 replace hL1 := hL1.ext ho41
 replace hE := hE.step ho41 (.inl (Nat.le_refl _))
 replace hN := hN.ext ho41
 replace hb7 := hb7.ext ho41
 replace hX := hX.ext ho41
 replace hD := hD.ext ho41
 replace hAr := hAr.ext ho41
 replace hGr := hGr.ext ho41
 refine sd0 (d_stN hb10 rfl rfl sz37 rfl rfl ?_)
 intro w44 hs46 ho45 hb10'
 clear hb10; have hb10 := hb10'; clear hb10'
 have hz47 := ho45.size
 replace hL0 := hL0.out ho45 (by first | omega | (simp only [blk_some, hi1_some] at *; omega))
 replace hL1 := hL1.out ho45 (by first | omega | (simp only [blk_some, hi1_some] at *; omega))
 replace hE := hE.step ho45 (by first | omega | (simp only [blk_some, hi1_some] at *; omega))
 replace hN := hN.out ho45 (by first | omega | (simp only [blk_some, hi1_some] at *; omega))
 replace hb7 := hb7.out ho45 (by first | omega | (simp only [blk_some, hi1_some] at *; omega))
 replace hX := hX.out ho45 (by first | omega | (simp only [blk_some, hi1_some] at *; omega))
 replace hD := hD.out ho45 (by first | omega | (simp only [blk_some, hi1_some] at *; omega))
 replace hAr := hAr.out ho45 (by first | omega | (simp only [blk_some, hi1_some] at *; omega))
 replace hGr := hGr.out ho45 (by first | omega | (simp only [blk_some, hi1_some] at *; omega))
 refine st (asB rfl) ?_
 refine rg_end ?_
 refine n_then ?_
 refine wp_seq ?_
 refine wp_seq ?_
 refine rg ?_
 refine st (mvB rfl) ?_
 refine st (y_not rfl) ?_
 refine rg_end ?_
 refine n_then ?_
 refine cnd rfl (fun hc0 => ?_) (fun hc0 => ?_)
 ·
  try simp only [nm] at hc0
  refine wp_seq ?_
  refine rg ?_
  refine sc cl19 (law12_awake_ok _) rfl ?_
  rintro v52 w48 ⟨rfl, ho49⟩
  have hz53 := ho49.size
  replace hL0 := hL0.ext ho49
  replace hL1 := hL1.ext ho49
  replace hE := hE.step ho49 (.inl (Nat.le_refl _))
  replace hN := hN.ext ho49
  replace hb7 := hb7.ext ho49
  replace hX := hX.ext ho49
  replace hD := hD.ext ho49
  replace hAr := hAr.ext ho49
  replace hGr := hGr.ext ho49
  replace hb10 := hb10.ext ho49
  refine st (mvB rfl) ?_
  refine stg rfl rfl rfl (mvI rfl) ?_
  refine stg rfl rfl rfl (y_eql rfl rfl) ?_
  refine st (y_pickT rfl rfl (v := .bool _) rfl) ?_
  refine st (mvB rfl) ?_
  refine stg rfl rfl (decide_eq_true rfl) (mvS rfl) ?_
  refine stg rfl rfl (decide_eq_true rfl) (y_len Try.underlying22 rfl) ?_
  refine stg rfl rfl (decide_eq_true rfl) (y_fld fld26_2 rfl) ?_
  refine stg rfl rfl (decide_eq_true rfl) (y_lb hb7 na24 rfl rfl) ?_
  refine stg rfl rfl (decide_eq_true rfl) (y_len Try.underlying24 rfl) ?_
  refine stg rfl rfl (decide_eq_true rfl) (y_eql rfl rfl) ?_
  refine st (y_pickT rfl (decide_eq_true rfl) (v := .bool _) rfl) ?_
  refine st (asB rfl) ?_
  refine rg_end ?_
  refine n_then ?_
  refine wp_ret ?_
  refine r_then (ret1 (v := (.bool _)) Try.results5 rfl ?_)
  exact ⟨vb (by simp), hE⟩
 ·
  try simp only [nm] at hc0
  obtain ⟨hc, hcap⟩ := hcy hc0
  have hcl := cy_len hc
  have htr := tot_rng hc.a g3 arcs.length (Nat.le_refl _)
  have htm := tot_mod (t := x) hc
  refine wp_skip ?_
  refine n_then ?_
  refine wp_seq ?_
  refine rg ?_
  refine st (y_lbN hb7 agg26 rfl) ?_
  refine st (y_lbN hb10 agg37 rfl) ?_
  refine st (mvS rfl) ?_
  refine sc cl26 (cycles_Total_ok N A _ _ arcs signs _ _ _ _ _ _ _ _ (N.acts.map (durA N x)) _ _ _ _ _ hN hAr hcap hGr (by omega) hD (by simp; omega)) rfl ?_
  rintro v58 w54 ⟨tt, ee, rfl, q1, q2, q3, ho55⟩
  obtain ⟨rfl, rfl⟩ := q3 hc g3
  have hz59 := ho55.size
  replace hL0 := hL0.ext ho55
  replace hL1 := hL1.ext ho55
  replace hE := hE.step ho55 (.inl (Nat.le_refl _))
  replace hN := hN.ext ho55
  replace hb7 := hb7.ext ho55
  replace hX := hX.ext ho55
  replace hD := hD.ext ho55
  replace hAr := hAr.ext ho55
  replace hGr := hGr.ext ho55
  replace hb10 := hb10.ext ho55
  refine st (mvT rfl) ?_
  refine st (y_ext rfl rfl) ?_
  refine st (y_ext rfl rfl) ?_
  refine st (asI rfl) ?_
  refine st (asI rfl) ?_
  refine rg_end ?_
  refine n_then ?_
  refine wp_seq ?_
  refine rg ?_
  refine sc cl19 (law12_awake_ok _) rfl ?_
  rintro v64 w60 ⟨rfl, ho61⟩
  have hz65 := ho61.size
  replace hL0 := hL0.ext ho61
  replace hL1 := hL1.ext ho61
  replace hE := hE.step ho61 (.inl (Nat.le_refl _))
  replace hN := hN.ext ho61
  replace hb7 := hb7.ext ho61
  replace hX := hX.ext ho61
  replace hD := hD.ext ho61
  replace hAr := hAr.ext ho61
  replace hGr := hGr.ext ho61
  replace hb10 := hb10.ext ho61
  refine st (mvB rfl) ?_
  refine stg rfl rfl rfl (mvI rfl) ?_
  refine stg rfl rfl rfl (y_eql rfl rfl) ?_
  refine st (y_pickT rfl rfl (v := .bool _) rfl) ?_
  refine st (mvB rfl) ?_
  refine stg rfl rfl (decide_eq_true rfl) (mvI rfl) ?_
  refine stg rfl rfl (decide_eq_true rfl) (y_eql rfl rfl) ?_
  refine st (y_pickT rfl (decide_eq_true rfl) (v := .bool _) rfl) ?_
  refine st (mvB rfl) ?_
  refine stg rfl rfl (decide_eq_true rfl) (mvI rfl) ?_
  refine stg rfl rfl (decide_eq_true rfl) (y_fld fld26_0 rfl) ?_
  refine stg rfl rfl (decide_eq_true rfl) (y_lb hb7 na3 rfl rfl) ?_
  refine scg rfl rfl (decide_eq_true rfl) cl17 (ref1_Mod_ok _ _ _ (by omega) (by omega) (by omega)) rfl ?_
  rintro v70 w66 ⟨rfl, ho67⟩
  have hz71 := ho67.size
  replace hL0 := hL0.ext ho67
  replace hL1 := hL1.ext ho67
  replace hE := hE.step ho67 (.inl (Nat.le_refl _))
  replace hN := hN.ext ho67
  replace hb7 := hb7.ext ho67
  replace hX := hX.ext ho67
  replace hD := hD.ext ho67
  replace hAr := hAr.ext ho67
  replace hGr := hGr.ext ho67
  replace hb10 := hb10.ext ho67
  refine stg rfl rfl (decide_eq_true rfl) (y_eql rfl rfl) ?_
  refine st (y_pickT rfl (decide_eq_true rfl) (v := .bool _) rfl) ?_
  refine st (asB rfl) ?_
  refine rg_end ?_
  refine n_then ?_
  refine wp_ret ?_
  refine ret1 (v := (.bool _)) Try.results5 rfl ?_
  exact ⟨vb (by simp [htm]), hE⟩
end Go.Proofs.Ytdgkaahghlbocaa
