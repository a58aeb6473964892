/-
  Walks of the functions, printed by a program out of the code and the loops' relations.
-/
import Derived.Test.YtdgkaahghlbocaaWkI
import Derived.Test.YtdgkaahghlbocaaProg
import Derived.KernelRfl
import Derived.Test.YtdgkaahghlbocaaC4
namespace Go.Proofs.Ytdgkaahghlbocaa
open Go.Wk Go.RowKit
set_option linter.unusedVariables false
set_option linter.unusedSimpArgs false
def prC (r : Cyc) : List Int × List Int := (r.arcs, r.signs)

set_option maxHeartbeats 4000000 in
set_option maxRecDepth 100000 in
theorem ref11_FundamentalX_ok (N : Net) (A : NetA) (lo hi : Nat) (tree : List Int) (at_ : Option Addr) (ct lt ht : Nat) (w : World) (hN : NetIn lo hi w N A) (hT : Ints lt ht w at_ tree) (htn : (tree.length : Int) ≤ 9223372036854775807)  : Cal Try.prog 15 [netV N A, .slice at_ tree.length ct] w (fun v w' => ∃ ad c l e, v = .tuple #[.slice ad l.length c, .int .i64 e] ∧ CyIn w.heap.size w'.heap.size w' ad l ∧ (∀ r ∈ l, CyOk N r.arcs r.signs ∧ r.arcs.length ≤ r.c) ∧ ((l.length : Nat) : Int) ≤ 512 ∧ (¬ FoOk N tree → l = [] ∧ e = 1) ∧ (FoOk N tree → e = 0 ∧ FunR N tree N.acts.length (l.map prC)) ∧ Ext w w') := by
 replace hN := hN.full
 replace hT := Ints.full hT
 have hE : Out 0 0 w w := Out.refl _ _ w
 refine enter Try.func15 rfl Try.ntmps15 rfl ?_
 refine wp_seq ?_
 refine rg ?_
 refine sd (d_boxA rfl ?_)
 intro b2 w1 hbb2 hs3 ho2 hb2
 have hz4 := ho2.size
 replace hN := hN.ext ho2
 replace hT := hT.ext ho2
 replace hE := hE.step ho2 (.inl (Nat.le_refl _))
 refine st (asS rfl) ?_
 refine st (asI rfl) ?_
 refine rg_end ?_
 refine n_then ?_
 refine wp_seq ?_
 refine wp_seq ?_
 refine rg ?_
 refine st (y_lbN hb2 agg26 rfl) ?_
 refine st (mvS rfl) ?_
 refine sc cl29 (ref11_Forest_ok N A _ _ tree _ _ _ _ _ hN hT htn) rfl ?_
 rintro v9 w5 ⟨b, rfl, hb, ho6⟩
 have hz10 := ho6.size
 replace hN := hN.ext ho6
 replace hT := hT.ext ho6
 replace hE := hE.step ho6 (.inl (Nat.le_refl _))
 replace hb2 := hb2.ext ho6
 refine st (y_not rfl) ?_
 refine rg_end ?_
 refine n_then ?_
 refine cnd rfl (fun hc0 => ?_) (fun hc0 => ?_)
 ·
  try simp only [nm] at hc0
  have hno : ¬ FoOk N tree := fun h => by rw [hb.2 h] at hc0; cases hc0
  refine wp_seq ?_
  refine rg ?_
  refine st (asS rfl) ?_
  refine st (asI rfl) ?_
  refine rg_end ?_
  refine n_then ?_
  refine wp_ret ?_
  refine r_then (ret2 (v := (.slice _ _ _)) (v' := (.int .i64 _)) Try.results15 rfl rfl ?_)
  exact ⟨none, 0, [], 1, rfl, ⟨nilS0, fun r hr => by cases hr⟩, (fun r hr => by cases hr), by simp, fun _ => ⟨rfl, rfl⟩, fun h => absurd h hno, hE⟩
 ·
  try simp only [nm] at hc0
  have hfo := hb.1 hc0
  have hok := hfo.ok
  have hac := hok.ac
  have htm := hfo.mem
  refine wp_skip ?_
  refine n_then ?_
  refine wp_seq ?_
  refine rg ?_
  refine st (asS rfl) ?_
  refine rg_end ?_
  refine n_then ?_
  refine wp_seq ?_
  refine wp_seq ?_
  refine rg ?_
  refine st (asI rfl) ?_
  refine rg_end ?_
  refine n_then ?_
  refine wp_block ?_
  obtain ⟨z1, hz1⟩ : ∃ z, z = w5.heap.size := ⟨_, rfl⟩
  refine lp (γ := Nat × List Cyc × Option Addr × Nat) [6, 7, 8, 9, 10, 15, 16, 17, 18, 19, 20, 21, 22, 23, 24, 25, 26, 27, 28, 29, 30, 31, 32, 33, 34, 35, 36, 37, 38, 39, 40, 41, 42, 43, 44, 45, 46, 47, 48, 49, 50, 51, 52, 53, 54] (fun ⟨k, l, ao, co⟩ => [(7, .int .i64 (k : Int)), (6, .slice ao l.length co)]) (fun ⟨k, l, ao, co⟩ w_ => Ext w5 w_ ∧ (k : Int) ≤ N.acts.length ∧ ((l.length : Nat) : Int) ≤ k ∧ FunR N tree k (l.map prC) ∧ (∀ r ∈ l, CyOk N r.arcs r.signs ∧ r.arcs.length ≤ r.c) ∧ Ow 37 encCy 2 z1 w_.heap.size w_ ao co l ∧ CRows z1 w_.heap.size w_ ao l) (fun ⟨k, l, ao, co⟩ => N.acts.length - k) (0, [], none, 0) ⟨rfl, rfl, trivial⟩ ⟨Out.refl _ _ _, by simp, by simp, FunR.zero, (fun r hr => by cases hr), Ow.nil (fun _ => rfl), ⟨fun r hr => by cases hr⟩⟩ ?_
  rintro ⟨k, l, ao, co⟩ hav_ w11 ⟨ho12, hk, hlk, hfr, hall, hO, hCR⟩
  have hlp0 := ho12
  have hz13 := ho12.size
  replace hN := hN.ext ho12
  replace hT := hT.ext ho12
  replace hE := hE.step ho12 (.inl (Nat.le_refl _))
  replace hb2 := hb2.ext ho12
  refine wp_seq ?_
  refine wp_seq ?_
  refine rg ?_
  refine st (mvI rfl) ?_
  refine st (y_fld fld26_2 rfl) ?_
  refine st (y_lb hb2 na24 rfl rfl) ?_
  refine st (y_len Try.underlying24 rfl) ?_
  refine st (y_lss rfl rfl) ?_
  refine rg_end ?_
  refine n_then ?_
  refine cnd rfl (fun hc1 => ?_) (fun hc1 => ?_)
  ·
   try simp only [nm] at hc1
   have ha := hok.acs _ (el_mem (l := N.acts) (i := (k : Int)) (by omega) hc1)
   have hcon : conB (tree.map (el N.acts)) (el N.acts (k : Int)).tt (el N.acts (k : Int)).fr = true := by rw [con_sym]; exact hfo.span k (by omega)
   refine wp_skip ?_
   refine n_then ?_
   refine wp_seq ?_
   refine wp_block ?_
   refine wp_seq ?_
   refine wp_seq ?_
   refine rg ?_
   refine st (mvS rfl) ?_
   refine st (mvI rfl) ?_
   refine sc cl41 (ref11_has_ok tree _ _ _ _ (k : Int) _ _ rfl hT htn) rfl ?_
   rintro v18 w14 ⟨rfl, ho15⟩
   have hz19 := ho15.size
   replace hN := hN.ext ho15
   replace hT := hT.ext ho15
   replace hE := hE.step ho15 (.inl (Nat.le_refl _))
   replace hb2 := hb2.ext ho15
   replace hO := hO.ext ho15
   replace hCR := hCR.ext ho15
   replace hlp0 := hlp0.step ho15 (.inl (Nat.le_refl _))
   refine rg_end ?_
   refine n_then ?_
   refine cnd rfl (fun hc2 => ?_) (fun hc2 => ?_)
   ·
    try simp only [nm] at hc2
    have hfr1 := hfr.pass hc2
    have hall1 := hall
    have hCR1 := hCR
    refine wp_exit ?_
    refine e_then (e_blk (?_))
    refine n_then ?_
    refine rg ?_
    refine st (mvI rfl) ?_
    refine st (y_add rfl rfl (by omega)) ?_
    refine st (asI rfl) ?_
    refine rg_end ?_
    exact n_then ⟨(k + 1, _, _, _), _, rfl, same_lk rfl (same_h0), ⟨rfl, rfl, trivial⟩, ⟨hlp0, by omega, by first | omega | (simp; omega), (by simpa [prC] using hfr1), hall1, hO.wide (by omega), hCR1.wide (by omega)⟩, by first | omega | (dsimp only; omega)⟩
   ·
    try simp only [nm] at hc2
    refine wp_skip ?_
    refine n_then ?_
    refine wp_seq ?_
    refine rgD 21 (fun w_ => Ext w14 w_) (fun i => Nat.beq i 14) mixed (by kernel_rfl) ?_
    intro w20 ho21 hs22
    refine ⟨ho21, ?_⟩
    have hx23 := ho21
    refine tn rfl (fun _ hG => y_lbN (hb2.ext hG) agg26 rfl) ?_
    refine tn rfl (fun _ hG => mvS rfl) ?_
    refine tn rfl (fun _ hG => y_fld fld26_2 rfl) ?_
    refine tn rfl (fun _ hG => y_lb (hb2.ext hG) na24 rfl rfl) ?_
    refine tn rfl (fun _ hG => mvI rfl) ?_
    refine tn rfl (fun _ hG => y_ix (hN.a.ext hG) sl24 rfl (rfl) rfl (by omega) (by omega)) ?_
    refine tn rfl (fun _ hG => y_fld fld43_2 rfl) ?_
    refine tn rfl (fun _ hG => y_lf (hN.a.ext hG) na3 rfl (by omega) (by omega) rfl) ?_
    refine tn rfl (fun _ hG => y_fld fld26_2 rfl) ?_
    refine tn rfl (fun _ hG => y_lb (hb2.ext hG) na24 rfl rfl) ?_
    refine tn rfl (fun _ hG => mvI rfl) ?_
    refine tn rfl (fun _ hG => y_ix (hN.a.ext hG) sl24 rfl (rfl) rfl (by omega) (by omega)) ?_
    refine tn rfl (fun _ hG => y_fld fld43_1 rfl) ?_
    refine tn rfl (fun _ hG => y_lf (hN.a.ext hG) na3 rfl (by omega) (by omega) rfl) ?_
    refine tc rfl cl42 (ref11_path_ok N A _ _ tree _ _ _ _ (el N.acts (k : Int)).tt (el N.acts (k : Int)).fr _ (hN.ext hx23) (hT.ext hx23) htn hok htm ha.t0 ha.t1 ha.f0 ha.f1 hcon) rfl ?_
    rintro v28 w24 ⟨aa, ca, ag, cg, arcs, signs, xs, rk, rfl, hAr, hGr, hpa, hal, ho25⟩
    have hfr1 := hfr.add hc2 (c := ((k : Int) :: arcs, 1 :: signs)) ⟨_, hpa.wa, by rw [zip_fst hpa.slen]; exact hpa.nodup, by rw [zip_fst hpa.slen, zip_snd hpa.slen]⟩
    have hcy := hpa.cycle hok (by omega) hc2 htm
    have hsl := hpa.slen
    have hx29 := hx23.step ho25 (.inl (Nat.le_refl _))
    have hz30 := ho25.size
    refine ⟨hx29, ?_⟩
    refine tn rfl (fun _ hG => mvT rfl) ?_
    refine tn rfl (fun _ hG => y_ext rfl rfl) ?_
    refine tn rfl (fun _ hG => y_ext rfl rfl) ?_
    refine tn rfl (fun _ hG => y_ext rfl rfl) ?_
    refine tn rfl (fun _ hG => asS rfl) ?_
    refine tn rfl (fun _ hG => asS rfl) ?_
    refine t_end ?_
    have hz31 := hx29.size
    replace hN := hN.ext hx29
    replace hT := hT.ext hx29
    replace hE := hE.step hx29 (.inl (Nat.le_refl _))
    replace hb2 := hb2.ext hx29
    replace hO := hO.ext hx29
    replace hCR := hCR.ext hx29
    replace hlp0 := hlp0.step hx29 (.inl (Nat.le_refl _))
    refine st (asB rfl) ?_
    refine rg_end ?_
    refine n_then ?_
    refine rg ?_
    refine st (mvS rfl) ?_
    refine st (mvI rfl) ?_
    refine sd (d_bsO (lo := w24.heap.size) (enc := encI) (l := [_]) (sz := 1) (fun _ => rfl) (bsl22_1 _ _) rfl rfl (by unfold maxLen; omega) (by omega) ?_)
    intro b1 w32 hbb1 hs34 ho33 hna
    have hz35 := ho33.size
    replace hN := hN.ext ho33
    replace hT := hT.ext ho33
    replace hE := hE.step ho33 (.inl (Nat.le_refl _))
    replace hb2 := hb2.ext ho33
    replace hO := hO.ext ho33
    replace hCR := hCR.ext ho33
    replace hlp0 := hlp0.step ho33 (.inl (Nat.le_refl _))
    replace hAr := hAr.ext ho33
    replace hGr := hGr.ext ho33
    refine st (mvS rfl) ?_
    have hrhna := hna.rng
    refine sd (d_appN (xs := arcs) hna sl22 infoz3 (by decide) rfl rfl rfl (rfl) (hAr) (fun _ => rfl) (by simp; unfold maxLen; omega) (by simp; omega) (by omega) (by omega) ?_)
    intro an cn w36 ho37 hna'
    have hs38 := ho37.size
    clear hna; have hna := hna'; clear hna'
    have hz41 := ho37.size
    replace hN := hN.out ho37 (by first | omega | (simp only [blk_some, hi1_some] at *; omega))
    replace hT := hT.out ho37 (by first | omega | (simp only [blk_some, hi1_some] at *; omega))
    replace hE := hE.step ho37 (by first | omega | (simp only [blk_some, hi1_some] at *; omega))
    replace hb2 := hb2.out ho37 (by first | omega | (simp only [blk_some, hi1_some] at *; omega))
    have hrnhO := hO.rng
    replace hO := hO.out ho37 (by first | omega | (simp only [blk_some, hi1_some] at *; omega))
    replace hCR := hCR.out ho37 (by first | omega | (simp only [blk_some, hi1_some] at *; omega))
    replace hlp0 := hlp0.step ho37 (by first | omega | (simp only [blk_some, hi1_some] at *; omega))
    replace hAr := hAr.out ho37 (by first | omega | (simp only [blk_some, hi1_some] at *; omega))
    replace hGr := hGr.out ho37 (by first | omega | (simp only [blk_some, hi1_some] at *; omega))
    refine sd (d_bsO (lo := w36.heap.size) (enc := encI) (l := [_]) (sz := 1) (fun _ => rfl) (bsl22_1 _ _) rfl rfl (by unfold maxLen; omega) (by omega) ?_)
    intro b5 w42 hbb5 hs44 ho43 hnb
    have hz45 := ho43.size
    replace hN := hN.ext ho43
    replace hT := hT.ext ho43
    replace hE := hE.step ho43 (.inl (Nat.le_refl _))
    replace hb2 := hb2.ext ho43
    replace hO := hO.ext ho43
    replace hCR := hCR.ext ho43
    replace hlp0 := hlp0.step ho43 (.inl (Nat.le_refl _))
    replace hAr := hAr.ext ho43
    replace hGr := hGr.ext ho43
    replace hna := hna.ext ho43
    refine st (mvS rfl) ?_
    have hrhnb := hnb.rng
    refine sd (d_appN (xs := signs) hnb sl22 infoz3 (by decide) rfl rfl rfl (rfl) (hGr) (fun _ => rfl) (by simp; unfold maxLen; omega) (by simp; omega) (by omega) (by omega) ?_)
    intro bn dn w46 ho47 hnb'
    have hs48 := ho47.size
    clear hnb; have hnb := hnb'; clear hnb'
    have hz51 := ho47.size
    replace hN := hN.out ho47 (by first | omega | (simp only [blk_some, hi1_some] at *; omega))
    replace hT := hT.out ho47 (by first | omega | (simp only [blk_some, hi1_some] at *; omega))
    replace hE := hE.step ho47 (by first | omega | (simp only [blk_some, hi1_some] at *; omega))
    replace hb2 := hb2.out ho47 (by first | omega | (simp only [blk_some, hi1_some] at *; omega))
    replace hO := hO.out ho47 (by first | omega | (simp only [blk_some, hi1_some] at *; omega))
    replace hCR := hCR.out ho47 (by first | omega | (simp only [blk_some, hi1_some] at *; omega))
    replace hlp0 := hlp0.step ho47 (by first | omega | (simp only [blk_some, hi1_some] at *; omega))
    replace hAr := hAr.out ho47 (by first | omega | (simp only [blk_some, hi1_some] at *; omega))
    replace hGr := hGr.out ho47 (by first | omega | (simp only [blk_some, hi1_some] at *; omega))
    have hrnhna := hna.rng
    replace hna := hna.out ho47 (by first | omega | (simp only [blk_some, hi1_some] at *; omega))
    refine st (y_build (bld37_0_1 _ _ _ _ _ _ _) rfl) ?_
    refine sd (d_bs (bsl30_1 _ _ _ _ _ _ _) rfl ?_)
    intro bl55 w52 hbbl55 hs54 ho53 hbl55
    have hz56 := ho53.size
    replace hN := hN.ext ho53
    replace hT := hT.ext ho53
    replace hE := hE.step ho53 (.inl (Nat.le_refl _))
    replace hb2 := hb2.ext ho53
    replace hO := hO.ext ho53
    replace hCR := hCR.ext ho53
    replace hlp0 := hlp0.step ho53 (.inl (Nat.le_refl _))
    replace hAr := hAr.ext ho53
    replace hGr := hGr.ext ho53
    replace hna := hna.ext ho53
    replace hnb := hnb.ext ho53
    have hn1 := Ow.sl hna
    have hn2 := Ow.sl hnb
    have hcap := hna.lenLe
    have hR0 := hCR.wide (hi' := w52.heap.size) (by omega)
    have hOr := hO.rng
    have hrhO := hO.rng
    refine sd (d_appA (xs := [(⟨an, cn, (k : Int) :: arcs, bn, dn, 1 :: signs⟩ : Cyc)]) hO sl30 infoz37 (by decide) rfl rfl rfl rfl (hbl55) (fun _ => rfl) (by simp; unfold maxLen; omega) (by simp; omega) (by omega) (by omega) ?_)
    intro ao1 co1 w57 hat hoA hO'
    have hs58 := hoA.size
    clear hO; have hO := hO'; clear hO'
    have hz61 := hoA.size
    replace hN := hN.out hoA (by first | omega | (simp only [blk_some, hi1_some] at *; omega))
    replace hT := hT.out hoA (by first | omega | (simp only [blk_some, hi1_some] at *; omega))
    replace hE := hE.step hoA (by first | omega | (simp only [blk_some, hi1_some] at *; omega))
    replace hb2 := hb2.out hoA (by first | omega | (simp only [blk_some, hi1_some] at *; omega))
    replace hlp0 := hlp0.step hoA (by first | omega | (simp only [blk_some, hi1_some] at *; omega))
    replace hAr := hAr.out hoA (by first | omega | (simp only [blk_some, hi1_some] at *; omega))
    replace hGr := hGr.out hoA (by first | omega | (simp only [blk_some, hi1_some] at *; omega))
    have hCR1 := hR0.app (r := (⟨an, cn, (k : Int) :: arcs, bn, dn, 1 :: signs⟩ : Cyc)) hn1 hn2 (by omega) (by omega) (by omega) (by omega) (by omega) (by omega) hoA (Nat.le_refl _) hat
    have hall1 : ∀ r ∈ l ++ [(⟨an, cn, (k : Int) :: arcs, bn, dn, 1 :: signs⟩ : Cyc)], CyOk N r.arcs r.signs ∧ r.arcs.length ≤ r.c := fun r hr => by
      rcases List.mem_append.1 hr with h | h
      · exact hall r h
      · rw [List.mem_singleton.1 h]; exact ⟨hcy, hcap⟩
    refine st (asS rfl) ?_
    refine rg_end ?_
    refine n_blk ?_
    refine n_then ?_
    refine rg ?_
    refine st (mvI rfl) ?_
    refine st (y_add rfl rfl (by omega)) ?_
    refine st (asI rfl) ?_
    refine rg_end ?_
    exact n_then ⟨(k + 1, _, _, _), _, rfl, same_lk rfl (same_h0), ⟨rfl, rfl, trivial⟩, ⟨hlp0, by omega, by first | omega | (simp; omega), (by simpa [prC] using hfr1), hall1, hO.wide (by omega), hCR1.wide (by omega)⟩, by first | omega | (dsimp only; omega)⟩
  ·
   try simp only [nm] at hc1
   have hkk : k = N.acts.length := by omega
   subst hkk
   refine wp_exit ?_
   refine e_then (e_then (e_blk (?_)))
   refine n_then ?_
   refine wp_seq ?_
   refine rg ?_
   refine st (mvS rfl) ?_
   refine st (asS rfl) ?_
   refine st (asI rfl) ?_
   refine rg_end ?_
   refine n_then ?_
   refine wp_ret ?_
   refine ret2 (v := (.slice _ _ _)) (v' := (.int .i64 _)) Try.results15 rfl rfl ?_
   exact ⟨ao, co, l, 0, rfl, ⟨Sl.wide (Ow.sl hO) (by omega) (by omega), fun r hr => by
     obtain ⟨l1, h1, l2, h2, a1, a2, a3, a4, a5, a6, a7, a8⟩ := hCR.row r hr
     exact ⟨Sl.wide a1 (by omega) (by omega), Sl.wide a2 (by omega) (by omega)⟩⟩, hall, by omega, fun h => absurd hfo h, fun _ => ⟨rfl, hfr⟩, hE⟩
end Go.Proofs.Ytdgkaahghlbocaa
