/-
  Walks of the functions, printed by a program out of the code and the loops' relations.
-/
import Derived.Test.YtggaekjnpbicnaaWkD
import Derived.Test.YtggaekjnpbicnaaProg
import Derived.KernelRfl
import Derived.Test.YtggaekjnpbicnaaB5
namespace Go.Proofs.Ytggaekjnpbicnaa
open Go.Wk Go.RowKit
set_option linter.unusedVariables false
set_option linter.unusedSimpArgs false
theorem cl22 : Callable Try.prog 22 := ⟨Try.call22⟩

set_option maxRecDepth 100000 in
theorem law22_RobustRaw_ok (N : Net) (A : NetA) (lo hi : Nat) (t : List Int) (at_ : Option Addr) (ct : Nat) (lt ht : Nat) (a i j dl : Int) (w : World) (hN : NetIn lo hi w N A) (hT : Ints lt ht w at_ t)  : Cal Try.prog 9 [netV N A, .slice at_ t.length ct, .int .i64 a, .int .i64 i, .int .i64 j, .int .i64 dl] w (fun v w' => v = .bool true ∧ Ext w w') := by
  replace hN := hN.full
  replace hT := Ints.full hT
  have hE : Out 0 0 w w := Out.refl _ _ w
  refine enter Try.func9 rfl Try.ntmps9 rfl ?_
  refine wp_seq ?_
  refine rg ?_
  refine sd (d_boxA rfl ?_)
  intro bl4 w1 hbbl4 hs3 ho2 hbl4
  have hz5 := ho2.size
  replace hN := hN.ext ho2
  replace hT := hT.ext ho2
  replace hE := hE.step ho2 (.inl (Nat.le_refl _))
  refine st (asB rfl) ?_
  refine rg_end ?_
  refine n_then ?_
  refine wp_seq ?_
  refine rg ?_
  refine sc cl15 (law22_awake_ok _) rfl ?_
  rintro v10 w6 ⟨rfl, ho7⟩
  have hz11 := ho7.size
  replace hN := hN.ext ho7
  replace hT := hT.ext ho7
  replace hE := hE.step ho7 (.inl (Nat.le_refl _))
  replace hbl4 := hbl4.ext ho7
  refine st (mvB rfl) ?_
  refine stg rfl rfl rfl (y_lbN hbl4 agg26 rfl) ?_
  refine stg rfl rfl rfl (mvS rfl) ?_
  refine stg rfl rfl rfl (mvI rfl) ?_
  refine stg rfl rfl rfl (mvI rfl) ?_
  refine stg rfl rfl rfl (mvI rfl) ?_
  refine stg rfl rfl rfl (mvI rfl) ?_
  refine scg rfl rfl rfl cl22 (law22_agrees_ok N A _ _ t _ _ _ _ _ _ _ _ _ hN hT) rfl ?_
  rintro v16 w12 ⟨rfl, ho13⟩
  have hz17 := ho13.size
  replace hN := hN.ext ho13
  replace hT := hT.ext ho13
  replace hE := hE.step ho13 (.inl (Nat.le_refl _))
  replace hbl4 := hbl4.ext ho13
  refine st (y_pickT rfl rfl (v := .bool _) rfl) ?_
  refine st (mvB rfl) ?_
  refine scg rfl rfl rfl cl19 (law22_row_ok _) rfl ?_
  rintro v22 w18 ⟨A1, rfl, hN1, ho19⟩
  have hz23 := ho19.size
  replace hN := hN.ext ho19
  replace hT := hT.ext ho19
  replace hE := hE.step ho19 (.inl (Nat.le_refl _))
  replace hbl4 := hbl4.ext ho19
  refine stg rfl rfl rfl (mvS rfl) ?_
  refine stg rfl rfl rfl (mvI rfl) ?_
  refine stg rfl rfl rfl (mvI rfl) ?_
  refine stg rfl rfl rfl (mvI rfl) ?_
  refine stg rfl rfl rfl (mvI rfl) ?_
  refine scg rfl rfl rfl cl22 (law22_agrees_ok rowNet A1 _ _ t _ _ _ _ _ _ _ _ _ hN1 hT) rfl ?_
  rintro v28 w24 ⟨rfl, ho25⟩
  have hz29 := ho25.size
  replace hN := hN.ext ho25
  replace hT := hT.ext ho25
  replace hE := hE.step ho25 (.inl (Nat.le_refl _))
  replace hbl4 := hbl4.ext ho25
  replace hN1 := hN1.ext ho25
  refine st (y_pickT rfl rfl (v := .bool _) rfl) ?_
  refine st (mvB rfl) ?_
  refine scg rfl rfl rfl cl19 (law22_row_ok _) rfl ?_
  rintro v34 w30 ⟨A2, rfl, hN2, ho31⟩
  have hz35 := ho31.size
  replace hN := hN.ext ho31
  replace hT := hT.ext ho31
  replace hE := hE.step ho31 (.inl (Nat.le_refl _))
  replace hbl4 := hbl4.ext ho31
  replace hN1 := hN1.ext ho31
  refine sdg rfl rfl rfl (d_bs (bsl22_3 _ _ _ _) rfl ?_)
  intro bt w36 hbbt hs38 ho37 hbt
  have hR : Sl encI 1 bt (bt + 1) w36 (some ⟨bt, 0, none⟩) rowT := Blk.sl (l := rowT) hbt (fun _ => rfl) (Nat.le_refl _) (Nat.lt_succ_self _)
  have hz39 := ho37.size
  replace hN := hN.ext ho37
  replace hT := hT.ext ho37
  replace hE := hE.step ho37 (.inl (Nat.le_refl _))
  replace hbl4 := hbl4.ext ho37
  replace hN1 := hN1.ext ho37
  replace hN2 := hN2.ext ho37
  refine stg rfl rfl rfl (mvI rfl) ?_
  refine stg rfl rfl rfl (mvI rfl) ?_
  refine stg rfl rfl rfl (mvI rfl) ?_
  refine stg rfl rfl rfl (mvI rfl) ?_
  refine scg rfl rfl rfl cl22 (law22_agrees_ok rowNet A2 _ _ rowT _ _ _ _ _ _ _ _ _ hN2 hR) rfl ?_
  rintro v44 w40 ⟨rfl, ho41⟩
  have hz45 := ho41.size
  replace hN := hN.ext ho41
  replace hT := hT.ext ho41
  replace hE := hE.step ho41 (.inl (Nat.le_refl _))
  replace hbl4 := hbl4.ext ho41
  replace hN1 := hN1.ext ho41
  replace hN2 := hN2.ext ho41
  replace hR := hR.ext ho41
  refine st (y_pickT rfl rfl (v := .bool _) rfl) ?_
  refine st (asB rfl) ?_
  refine rg_end ?_
  refine n_then ?_
  refine wp_ret ?_
  refine ret1 (v := (.bool _)) Try.results9 rfl ?_
  exact ⟨rfl, hE⟩

set_option maxRecDepth 100000 in
theorem law22_RobustGenerated_ok (a0 : Option Addr) (c0 : Nat) (l0 : List Int) (a1 : Option Addr) (c1 : Nat) (l1 : List Int) (a i j dl : Int) (w : World) (hL0 : Ints 0 w.heap.size w a0 l0) (hl0 : (l0.length : Int) ≤ 9223372036854775807) (hL1 : Ints 0 w.heap.size w a1 l1) (hl1 : (l1.length : Int) ≤ 9223372036854775807)  : Cal Try.prog 10 [.slice a0 l0.length c0, .slice a1 l1.length c1, .int .i64 a, .int .i64 i, .int .i64 j, .int .i64 dl] w (fun v w' => v = .bool true ∧ Ext w w') := by
  have hE : Out 0 0 w w := Out.refl _ _ w
  refine enter Try.func10 rfl Try.ntmps10 rfl ?_
  refine wp_seq ?_
  refine rg ?_
  refine st (asB rfl) ?_
  refine rg_end ?_
  refine n_then ?_
  refine wp_seq ?_
  refine rg ?_
  refine st (mvS rfl) ?_
  refine sc cl11 (law22_wide_ok _ _ _ _ _ _ hL0 hl0) rfl ?_
  rintro v5 w1 ⟨N, A, rfl, hwd, hN, ho2⟩
  obtain ⟨hok, hp2, hp9, hev1, hev5, hac8, hmnn⟩ := hwd.1
  have hz6 := ho2.size
  replace hL0 := hL0.ext ho2
  replace hL1 := hL1.ext ho2
  replace hE := hE.step ho2 (.inl (Nat.le_refl _))
  refine st (mvS rfl) ?_
  refine sc cl23 (keep_Network_ok _ _ _ _ _ _ hL0 hl0) rfl ?_
  rintro v11 w7 ⟨N2, A2, rfl, hsm, hev, hac, hdis, ho8⟩
  have hN2 : NetIn _ _ _ N2 A2 := ⟨Ow.sl hev, Ow.sl hac⟩
  clear hev hac
  obtain ⟨gok, gp2, gp9, gev1, gev5, gac8, gmn⟩ := hsm
  have hz12 := ho8.size
  replace hL0 := hL0.ext ho8
  replace hL1 := hL1.ext ho8
  replace hE := hE.step ho8 (.inl (Nat.le_refl _))
  replace hN := hN.ext ho8
  refine sd (d_allocA zer26 ?_)
  intro bl16 w13 hbbl16 hs15 ho14 hbl16
  have hz17 := ho14.size
  replace hL0 := hL0.ext ho14
  replace hL1 := hL1.ext ho14
  replace hE := hE.step ho14 (.inl (Nat.le_refl _))
  replace hN := hN.ext ho14
  replace hN2 := hN2.ext ho14
  refine sd (d_allocA zer26 ?_)
  intro bl21 w18 hbbl21 hs20 ho19 hbl21
  have hz22 := ho19.size
  replace hL0 := hL0.ext ho19
  replace hL1 := hL1.ext ho19
  replace hE := hE.step ho19 (.inl (Nat.le_refl _))
  replace hN := hN.ext ho19
  replace hN2 := hN2.ext ho19
  replace hbl16 := hbl16.ext ho19
  refine sd0 (d_stN hbl16 rfl rfl sz26 rfl rfl ?_)
  intro w23 hs25 ho24 hbl16'
  clear hbl16; have hbl16 := hbl16'; clear hbl16'
  have hz26 := ho24.size
  replace hL0 := hL0.out ho24 (by first | omega | (simp only [blk_some, hi1_some] at *; omega))
  replace hL1 := hL1.out ho24 (by first | omega | (simp only [blk_some, hi1_some] at *; omega))
  replace hE := hE.step ho24 (by first | omega | (simp only [blk_some, hi1_some] at *; omega))
  replace hN := hN.out ho24 (by first | omega | (simp only [blk_some, hi1_some] at *; omega))
  replace hN2 := hN2.out ho24 (by first | omega | (simp only [blk_some, hi1_some] at *; omega))
  replace hbl21 := hbl21.out ho24 (by first | omega | (simp only [blk_some, hi1_some] at *; omega))
  refine sd0 (d_stN hbl21 rfl rfl sz26 rfl rfl ?_)
  intro w27 hs29 ho28 hbl21'
  clear hbl21; have hbl21 := hbl21'; clear hbl21'
  have hz30 := ho28.size
  replace hL0 := hL0.out ho28 (by first | omega | (simp only [blk_some, hi1_some] at *; omega))
  replace hL1 := hL1.out ho28 (by first | omega | (simp only [blk_some, hi1_some] at *; omega))
  replace hE := hE.step ho28 (by first | omega | (simp only [blk_some, hi1_some] at *; omega))
  replace hN := hN.out ho28 (by first | omega | (simp only [blk_some, hi1_some] at *; omega))
  replace hN2 := hN2.out ho28 (by first | omega | (simp only [blk_some, hi1_some] at *; omega))
  replace hbl16 := hbl16.out ho28 (by first | omega | (simp only [blk_some, hi1_some] at *; omega))
  refine rg_end ?_
  refine n_then ?_
  refine wp_seq ?_
  refine rg ?_
  refine st (y_fld fld26_1 rfl) ?_
  refine st (y_lb hbl16 na23 rfl rfl) ?_
  refine st (y_len Try.underlying23 rfl) ?_
  refine st (y_add rfl rfl (by omega)) ?_
  refine st (asI rfl) ?_
  refine rg_end ?_
  refine n_then ?_
  refine wp_seq ?_
  have pa := pick_rng a ((N.acts.length : Int) + 2) (by omega)
  have pi := pick_rng i ((N.evs.length : Int) + 2) (by omega)
  have pj := pick_rng j ((N.evs.length : Int) + 2) (by omega)
  have pd := pick_rng dl 60 (by omega)
  refine rgD 35 (fun w_ => Ext w27 w_) (fun i => Nat.beq i 0 || Nat.beq i 5 || Nat.beq i 11 || Nat.beq i 15 || Nat.beq i 19 || Nat.beq i 22 || Nat.beq i 24 || Nat.beq i 30) mixed (by kernel_rfl) ?_
  intro w31 ho32 hs33
  refine ⟨ho32, ?_⟩
  have hx34 := ho32
  refine tc rfl cl15 (law22_awake_ok _) rfl ?_
  rintro v39 w35 ⟨rfl, ho36⟩
  have hx40 := hx34.step ho36 (.inl (Nat.le_refl _))
  have hz41 := ho36.size
  refine ⟨hx40, ?_⟩
  refine tn rfl (fun _ hG => mvB rfl) ?_
  refine tng rfl rfl rfl rfl (fun _ hG => y_lbN (hbl16.ext hG) agg26 rfl) ?_
  refine tng rfl rfl rfl rfl (fun _ hG => y_lbN (hbl16.ext hG) agg26 rfl) ?_
  refine tng rfl rfl rfl rfl (fun _ hG => mvS rfl) ?_
  refine tcg rfl rfl rfl rfl cl12 (keep_Times_ok N A _ _ _ _ _ _ _ _ (hN.ext hx40) (hL1.ext hx40) hl1 (by omega) (by omega)) rfl ?_
  rintro v46 w42 ⟨ax, cx, x, rfl, hT, hxl, hxr, ho43⟩
  have hx47 := hx40.step ho43 (.inl (Nat.le_refl _))
  have hz48 := ho43.size
  refine ⟨hx47, ?_⟩
  refine tng rfl rfl rfl rfl (fun _ hG => mvI rfl) ?_
  refine tng rfl rfl rfl rfl (fun _ hG => y_fld fld26_2 rfl) ?_
  refine tng rfl rfl rfl rfl (fun _ hG => y_lb (hbl16.ext hG) na24 rfl rfl) ?_
  refine tng rfl rfl rfl rfl (fun _ hG => y_len Try.underlying24 rfl) ?_
  refine tng rfl rfl rfl rfl (fun _ hG => y_add rfl rfl (by omega)) ?_
  refine tcg rfl rfl rfl rfl cl13 (keep_Pick_ok _ _ _ (by omega) (by omega)) rfl ?_
  rintro v53 w49 ⟨rfl, ho50⟩
  have hx54 := hx47.step ho50 (.inl (Nat.le_refl _))
  have hz55 := ho50.size
  replace hT := hT.ext ho50
  refine ⟨hx54, ?_⟩
  refine tng rfl rfl rfl rfl (fun _ hG => y_sub rfl rfl (by omega)) ?_
  refine tng rfl rfl rfl rfl (fun _ hG => mvI rfl) ?_
  refine tng rfl rfl rfl rfl (fun _ hG => mvI rfl) ?_
  refine tcg rfl rfl rfl rfl cl13 (keep_Pick_ok _ _ _ (by omega) (by omega)) rfl ?_
  rintro v60 w56 ⟨rfl, ho57⟩
  have hx61 := hx54.step ho57 (.inl (Nat.le_refl _))
  have hz62 := ho57.size
  replace hT := hT.ext ho57
  refine ⟨hx61, ?_⟩
  refine tng rfl rfl rfl rfl (fun _ hG => y_sub rfl rfl (by omega)) ?_
  refine tng rfl rfl rfl rfl (fun _ hG => mvI rfl) ?_
  refine tng rfl rfl rfl rfl (fun _ hG => mvI rfl) ?_
  refine tcg rfl rfl rfl rfl cl13 (keep_Pick_ok _ _ _ (by omega) (by omega)) rfl ?_
  rintro v67 w63 ⟨rfl, ho64⟩
  have hx68 := hx61.step ho64 (.inl (Nat.le_refl _))
  have hz69 := ho64.size
  replace hT := hT.ext ho64
  refine ⟨hx68, ?_⟩
  refine tng rfl rfl rfl rfl (fun _ hG => y_sub rfl rfl (by omega)) ?_
  refine tng rfl rfl rfl rfl (fun _ hG => mvI rfl) ?_
  refine tcg rfl rfl rfl rfl cl13 (keep_Pick_ok _ _ _ (by omega) (by omega)) rfl ?_
  rintro v74 w70 ⟨rfl, ho71⟩
  have hx75 := hx68.step ho71 (.inl (Nat.le_refl _))
  have hz76 := ho71.size
  replace hT := hT.ext ho71
  refine ⟨hx75, ?_⟩
  refine tng rfl rfl rfl rfl (fun _ hG => y_sub rfl rfl (by omega)) ?_
  refine tcg rfl rfl rfl rfl cl22 (law22_agrees_ok N A _ _ x _ _ _ _ _ _ _ _ _ (hN.ext hx75) hT) rfl ?_
  rintro v81 w77 ⟨rfl, ho78⟩
  have hx82 := hx75.step ho78 (.inl (Nat.le_refl _))
  have hz83 := ho78.size
  replace hT := hT.ext ho78
  refine ⟨hx82, ?_⟩
  refine tn rfl (fun _ hG => y_pickT rfl rfl (v := .bool _) rfl) ?_
  refine tn rfl (fun _ hG => mvB rfl) ?_
  refine tng rfl rfl rfl rfl (fun _ hG => y_lbN (hbl21.ext hG) agg26 rfl) ?_
  refine tng rfl rfl rfl rfl (fun _ hG => y_lbN (hbl21.ext hG) agg26 rfl) ?_
  refine tng rfl rfl rfl rfl (fun _ hG => mvS rfl) ?_
  refine tcg rfl rfl rfl rfl cl12 (keep_Times_ok N2 A2 _ _ _ _ _ _ _ _ (hN2.ext hx82) (hL1.ext hx82) hl1 (by omega) (by omega)) rfl ?_
  rintro v88 w84 ⟨ay, cy, y, rfl, hU, hyl, hyr, ho85⟩
  have hx89 := hx82.step ho85 (.inl (Nat.le_refl _))
  have hz90 := ho85.size
  replace hT := hT.ext ho85
  refine ⟨hx89, ?_⟩
  refine tng rfl rfl rfl rfl (fun _ hG => mvI rfl) ?_
  refine tng rfl rfl rfl rfl (fun _ hG => mvI rfl) ?_
  refine tng rfl rfl rfl rfl (fun _ hG => mvI rfl) ?_
  refine tng rfl rfl rfl rfl (fun _ hG => mvI rfl) ?_
  refine t_end ?_
  have hz91 := hx89.size
  replace hL0 := hL0.ext hx89
  replace hL1 := hL1.ext hx89
  replace hE := hE.step hx89 (.inl (Nat.le_refl _))
  replace hN := hN.ext hx89
  replace hN2 := hN2.ext hx89
  replace hbl16 := hbl16.ext hx89
  replace hbl21 := hbl21.ext hx89
  refine scg rfl rfl rfl cl22 (law22_agrees_ok N2 A2 _ _ y _ _ _ _ _ _ _ _ _ hN2 hU) rfl ?_
  rintro v96 w92 ⟨rfl, ho93⟩
  have hz97 := ho93.size
  replace hL0 := hL0.ext ho93
  replace hL1 := hL1.ext ho93
  replace hE := hE.step ho93 (.inl (Nat.le_refl _))
  replace hN := hN.ext ho93
  replace hN2 := hN2.ext ho93
  replace hbl16 := hbl16.ext ho93
  replace hbl21 := hbl21.ext ho93
  replace hT := hT.ext ho93
  replace hU := hU.ext ho93
  refine st (y_pickT rfl rfl (v := .bool _) rfl) ?_
  refine st (asB rfl) ?_
  refine rg_end ?_
  refine n_then ?_
  refine wp_ret ?_
  refine ret1 (v := (.bool _)) Try.results10 rfl ?_
  exact ⟨rfl, hE⟩
end Go.Proofs.Ytggaekjnpbicnaa
