/-
  Walks of the functions, printed by a program out of the code and the loops' relations.
-/
import Derived.Test.YtclligkngjhihaaWkD
import Derived.Test.YtclligkngjhihaaProg
import Derived.KernelRfl
import Derived.Test.YtclligkngjhihaaK2
namespace Go.Proofs.Ytclligkngjhihaa
open Go.Wk Go.RowKit
set_option linter.unusedVariables false
set_option linter.unusedSimpArgs false
set_option maxHeartbeats 2000000 in
set_option maxRecDepth 100000 in
theorem ref11_Forest_ok (N : Net) (A : NetA) (lo hi : Nat) (tree : List Int) (at_ : Option Addr) (ct lt ht : Nat) (w : World) (hN : NetIn lo hi w N A) (hT : Ints lt ht w at_ tree) (htn : (tree.length : Int) ≤ 9223372036854775807)  : Cal Try.prog 48 [netV N A, .slice at_ tree.length ct] w (fun v w' => ∃ b, v = .bool b ∧ (b = true ↔ FoOk N tree) ∧ Ext w w') := by
 replace hN := hN.full
 replace hT := Ints.full hT
 have hE : Out 0 0 w w := Out.refl _ _ w
 refine enter Try.func48 rfl Try.ntmps48 rfl ?_
 refine wp_seq ?_
 refine rg ?_
 refine sd (d_boxA rfl ?_)
 intro b2 w1 hbb2 hs3 ho2 hb2
 have hz4 := ho2.size
 replace hN := hN.ext ho2
 replace hT := hT.ext ho2
 replace hE := hE.step ho2 (.inl (Nat.le_refl _))
 refine st (asB rfl) ?_
 refine rg_end ?_
 refine n_then ?_
 refine wp_seq ?_
 refine wp_seq ?_
 refine rg ?_
 refine st (y_lbN hb2 agg26 rfl) ?_
 refine sc cl45 (ref11_Check_ok N A _ _ _ hN) rfl ?_
 rintro v9 w5 ⟨rfl, ho6⟩
 have hz10 := ho6.size
 replace hN := hN.ext ho6
 replace hT := hT.ext ho6
 replace hE := hE.step ho6 (.inl (Nat.le_refl _))
 replace hb2 := hb2.ext ho6
 refine st (y_not rfl) ?_
 refine rg_end ?_
 refine n_then ?_
 refine cnd rfl (fun hc0 => ?_) (fun hc0 => ?_)
 ·
  try simp only [nm] at hc0
  have hno : ¬ FoOk N tree := fun h => by rw [netOk_iff.2 h.ok] at hc0; cases hc0
  refine wp_seq ?_
  refine rg ?_
  refine st (asB rfl) ?_
  refine rg_end ?_
  refine n_then ?_
  refine wp_ret ?_
  refine r_then (ret1 (v := (.bool _)) Try.results48 rfl ?_)
  exact ⟨false, rfl, ⟨fun h => (by cases h), fun h => absurd h hno⟩, hE⟩
 ·
  try simp only [nm] at hc0
  have hok := netOk_iff.1 hc0
  have hne := hok.ev
  have hna := hok.ac
  refine wp_skip ?_
  refine n_then ?_
  refine wp_seq ?_
  refine rg ?_
  refine st (y_fld fld26_1 rfl) ?_
  refine st (y_lb hb2 na23 rfl rfl) ?_
  refine st (y_len Try.underlying23 rfl) ?_
  refine sd (d_make (m := N.evs.length) (lo := w.heap.size) (enc := encI) (e0 := (0 : Int)) sl22 info3 (fun _ => rfl) rfl rfl rfl (by omega) (by unfold maxLen; omega) (by omega) ?_)
  intro bp w11 hbbp hs13 ho12 hP
  have hz15 := ho12.size
  replace hN := hN.ext ho12
  replace hT := hT.ext ho12
  replace hE := hE.step ho12 (.inl (Nat.le_refl _))
  replace hb2 := hb2.ext ho12
  refine st (asS rfl) ?_
  refine rg_end ?_
  refine n_then ?_
  refine wp_seq ?_
  refine wp_seq ?_
  refine rg ?_
  refine st (mvS rfl) ?_
  refine st (y_len Try.underlying22 rfl) ?_
  refine st (mvI rfl) ?_
  refine rg_end ?_
  refine n_then ?_
  refine wp_block ?_
  refine lp (γ := Nat × List Int) [6, 18, 19, 20, 21, 22, 23, 24, 25] (fun ⟨k, P⟩ => [(18, .int .i64 (k : Int))]) (fun ⟨k, P⟩ w_ => Out bp (bp + 1) w11 w_ ∧ (k : Int) ≤ N.evs.length ∧ P.length = N.evs.length ∧ (∀ p : Nat, p < k → el P p = p) ∧ Ow 3 encI 1 w.heap.size (bp + 1) w_ (some ⟨bp, 0, none⟩) N.evs.length P) (fun ⟨k, P⟩ => N.evs.length - k) (0, List.replicate N.evs.length 0) ⟨rfl, trivial⟩ ⟨Out.refl _ _ _, by simp, by simp, (fun p hp => by omega), hP⟩ ?_
  rintro ⟨k, P⟩ hav_ w16 ⟨ho17, hk, hPl, hfil, hP⟩
  have hlp0 := ho17
  have hz18 := ho17.size
  replace hN := hN.out ho17 (by first | omega | (simp only [blk_some, hi1_some] at *; omega))
  replace hT := hT.out ho17 (by first | omega | (simp only [blk_some, hi1_some] at *; omega))
  replace hE := hE.step ho17 (by first | omega | (simp only [blk_some, hi1_some] at *; omega))
  replace hb2 := hb2.out ho17 (by first | omega | (simp only [blk_some, hi1_some] at *; omega))
  refine wp_seq ?_
  refine rg ?_
  refine st (y_lss rfl rfl) ?_
  refine rg_end ?_
  refine n_then ?_
  refine wp_seq ?_
  refine cnd rfl (fun hc1 => ?_) (fun hc1 => ?_)
  ·
   try simp only [nm] at hc1
   refine wp_skip ?_
   refine n_then ?_
   refine wp_seq ?_
   refine wp_block ?_
   refine wp_seq ?_
   refine rg ?_
   refine st (mvI rfl) ?_
   refine st (asI rfl) ?_
   refine rg_end ?_
   refine n_then ?_
   refine rg ?_
   refine st (mvS rfl) ?_
   refine st (mvI rfl) ?_
   refine st (mvI rfl) ?_
   refine st (y_ix hP.sl sl22 rfl (hPl.symm) rfl (by omega) (by omega)) ?_
   refine sd0 (d_se (j := 0)  hP sz3 rfl rfl rfl (by omega) (by omega) (Nat.le_of_ble_eq_true rfl) rfl ?_)
   intro w19 hs21 ho20 hP'
   have hrhP := hP.rng
   clear hP; have hP := hP'; clear hP'
   have hz22 := ho20.size
   replace hN := hN.out ho20 (by first | omega | (simp only [blk_some, hi1_some] at *; omega))
   replace hT := hT.out ho20 (by first | omega | (simp only [blk_some, hi1_some] at *; omega))
   replace hE := hE.step ho20 (by first | omega | (simp only [blk_some, hi1_some] at *; omega))
   replace hb2 := hb2.out ho20 (by first | omega | (simp only [blk_some, hi1_some] at *; omega))
   replace hlp0 := hlp0.step ho20 (by first | omega | (simp only [blk_some, hi1_some] at *; omega))
   refine rg_end ?_
   refine n_blk ?_
   refine n_then ?_
   refine rg ?_
   refine st (y_add rfl rfl (by omega)) ?_
   refine st (mvI rfl) ?_
   refine rg_end ?_
   exact n_then ⟨(k + 1, _), _, rfl, same_lk rfl (same_h0), ⟨rfl, trivial⟩, ⟨hlp0, by omega, by simp [hPl], fillU hPl (by omega) hfil, hP⟩, by first | omega | (dsimp only; omega)⟩
  ·
   try simp only [nm] at hc1
   have hr0 := RootOf.start hPl (fun p hp => hfil p (by omega))
   refine wp_exit ?_
   refine e_then (e_then (e_blk (?_)))
   refine n_then ?_
   refine wp_seq ?_
   refine wp_seq ?_
   refine rg ?_
   refine st (asI rfl) ?_
   refine rg_end ?_
   refine n_then ?_
   refine wp_block ?_
   refine lp (γ := Nat × List Int × (Int → Int)) [4, 7, 26, 27, 28, 29, 30, 31, 32, 33, 34, 35, 36, 37, 38, 39, 40, 41, 42, 43, 44, 45, 46, 47, 48, 49, 50, 51, 52, 53, 54, 55, 56, 57, 58, 59, 60, 61, 62, 63, 64, 65, 66, 67, 68, 69, 70] (fun ⟨k, P, R⟩ => [(7, .int .i64 (k : Int))]) (fun ⟨k, P, R⟩ w_ => Out bp (bp + 1) w16 w_ ∧ (k : Int) ≤ tree.length ∧ RootOf N.evs.length P R ∧ Tells N.evs.length R (conB ((tree.take k).map (el N.acts))) ∧ FoA N tree k ∧ Ow 3 encI 1 w.heap.size (bp + 1) w_ (some ⟨bp, 0, none⟩) N.evs.length P) (fun ⟨k, P, R⟩ => tree.length - k) (0, _, fun x => x) ⟨rfl, trivial⟩ ⟨Out.refl _ _ _, by simp, hr0, by simpa [conB] using Tells.start _, FoA.zero, hP⟩ ?_
   rintro ⟨k, P, R⟩ hav_ w23 ⟨ho24, hk, hr, ht_, hfa, hP⟩
   have hlp1 := ho24
   have hz25 := ho24.size
   replace hN := hN.out ho24 (by first | omega | (simp only [blk_some, hi1_some] at *; omega))
   replace hT := hT.out ho24 (by first | omega | (simp only [blk_some, hi1_some] at *; omega))
   replace hE := hE.step ho24 (by first | omega | (simp only [blk_some, hi1_some] at *; omega))
   replace hb2 := hb2.out ho24 (by first | omega | (simp only [blk_some, hi1_some] at *; omega))
   refine wp_seq ?_
   refine wp_seq ?_
   refine rg ?_
   refine st (mvI rfl) ?_
   refine st (mvS rfl) ?_
   refine st (y_len Try.underlying22 rfl) ?_
   refine st (y_lss rfl rfl) ?_
   refine rg_end ?_
   refine n_then ?_
   refine cnd rfl (fun hc2 => ?_) (fun hc2 => ?_)
   ·
    try simp only [nm] at hc2
    have hPl := hr.1
    refine wp_skip ?_
    refine n_then ?_
    refine wp_seq ?_
    refine wp_block ?_
    refine wp_seq ?_
    refine rgD 36 (fun w_ => Ext w23 w_) (fun i => Nat.beq i 8) mixed (by kernel_rfl) ?_
    intro w26 ho27 hs28
    refine ⟨ho27, ?_⟩
    have hx29 := ho27
    refine tn rfl (fun _ hG => mvS rfl) ?_
    refine tn rfl (fun _ hG => mvI rfl) ?_
    refine tn rfl (fun _ hG => y_ix (hT.ext hG) sl22 rfl (rfl) rfl (by omega) (by omega)) ?_
    refine tn rfl (fun _ hG => y_le (hT.ext hG) na3 rfl (by omega) (by omega) rfl) ?_
    refine tn rfl (fun _ hG => y_fld fld26_2 rfl) ?_
    refine tn rfl (fun _ hG => y_lb (hb2.ext hG) na24 rfl rfl) ?_
    refine tn rfl (fun _ hG => y_len Try.underlying24 rfl) ?_
    refine tn rfl (fun _ hG => y_sub rfl rfl (by omega)) ?_
    refine tc rfl cl65 (ref11_in_ok _ _ _ _) rfl ?_
    rintro v34 w30 ⟨rfl, ho31⟩
    have hx35 := hx29.step ho31 (.inl (Nat.le_refl _))
    have hz36 := ho31.size
    refine ⟨hx35, ?_⟩
    refine tn rfl (fun _ hG => y_not rfl) ?_
    refine tn rfl (fun _ hG => mvB rfl) ?_
    refine gspT 42 rfl (fun hg37 => ?_) (fun hg37 => ?_)
    ·
     have hg37n := hg37; try simp only [nm] at hg37n
     refine tns rfl rfl hg37 ?_
     refine tns rfl rfl hg37 ?_
     refine tns rfl rfl hg37 ?_
     refine tnu rfl rfl ?_
     refine tnu rfl rfl ?_
     refine tnu rfl rfl ?_
     refine tnu rfl rfl ?_
     refine tnu rfl rfl ?_
     refine tnu rfl rfl ?_
     refine tnu rfl rfl ?_
     refine tnu rfl rfl ?_
     refine tnu rfl rfl ?_
     refine tnu rfl rfl ?_
     refine tns rfl rfl hg37 ?_
     refine tn rfl (fun _ hG => y_pickT rfl hg37 (v := .bool _) rfl) ?_
     refine tn rfl (fun _ hG => mvB rfl) ?_
     refine tns rfl rfl rfl ?_
     refine tns rfl rfl rfl ?_
     refine tns rfl rfl rfl ?_
     refine tns rfl rfl rfl ?_
     refine tns rfl rfl rfl ?_
     refine tns rfl rfl rfl ?_
     refine tns rfl rfl rfl ?_
     refine tns rfl rfl rfl ?_
     refine tns rfl rfl rfl ?_
     refine t_end ?_
     have hz38 := hx35.size
     replace hN := hN.ext hx35
     replace hT := hT.ext hx35
     replace hE := hE.step hx35 (.inl (Nat.le_refl _))
     replace hb2 := hb2.ext hx35
     replace hP := hP.ext hx35
     replace hlp1 := hlp1.step hx35 (.inl (Nat.le_refl _))
     refine sts rfl rfl rfl ?_
     refine sts rfl rfl rfl ?_
     refine st (y_pickT rfl rfl (v := .bool _) rfl) ?_
     refine rg_end ?_
     refine n_then ?_
     refine cnd rfl (fun hc3 => ?_) (fun hc3 => absurd hc3 (by decide))
     have hno : ¬ FoOk N tree := fun h => by
       have h1 := h.a.rng k (by omega)
       have h2 : 0 < k → el tree ((k : Int) - 1) < el tree (k : Int) := fun h0 => h.a.prev (by omega) h0
       have h3 := h.a.new k (by omega)
       first
       | omega
       | (rw [(ht_ _ _ ha.f0 ha.f1 ha.t0 ha.t1).2 (by assumption)] at h3; cases h3)
     refine wp_seq ?_
     refine rg ?_
     refine st (asB rfl) ?_
     refine rg_end ?_
     refine n_then ?_
     refine wp_ret ?_
     refine r_blk (r_then (r_then (r_blk (r_then (ret1 (v := (.bool _)) Try.results48 rfl ?_)))))
     exact ⟨false, rfl, ⟨fun h => (by cases h), fun h => absurd h hno⟩, hE⟩
    ·
     have hg37n := hg37; try simp only [nm] at hg37n
     refine tng rfl rfl rfl hg37 (fun _ hG => mvI rfl) ?_
     refine tng rfl rfl rfl hg37 (fun _ hG => y_gtr rfl rfl) ?_
     refine tng rfl rfl rfl hg37 (fun _ hG => mvB rfl) ?_
     refine gspT 45 rfl (fun hg39 => ?_) (fun hg39 => ?_)
     ·
      have hg39n := hg39; try simp only [nm] at hg39n
      refine tng rfl rfl rfl hg39 (fun _ hG => mvS rfl) ?_
      refine tng rfl rfl rfl hg39 (fun _ hG => mvI rfl) ?_
      refine tng rfl rfl rfl hg39 (fun _ hG => y_ix (hT.ext hG) sl22 rfl (rfl) rfl (by omega) (by omega)) ?_
      refine tng rfl rfl rfl hg39 (fun _ hG => y_le (hT.ext hG) na3 rfl (by omega) (by omega) rfl) ?_
      refine tng rfl rfl rfl hg39 (fun _ hG => mvS rfl) ?_
      refine tng rfl rfl rfl hg39 (fun _ hG => mvI rfl) ?_
      refine tng rfl rfl rfl hg39 (fun _ hG => y_sub rfl rfl (by omega)) ?_
      refine tng rfl rfl rfl hg39 (fun _ hG => y_ix (hT.ext hG) sl22 rfl (rfl) rfl (by omega) (by omega)) ?_
      refine tng rfl rfl rfl hg39 (fun _ hG => y_le (hT.ext hG) na3 rfl (by omega) (by omega) rfl) ?_
      refine tng rfl rfl rfl hg39 (fun _ hG => y_leq rfl rfl) ?_
      refine tng rfl rfl rfl hg37 (fun _ hG => y_pickT rfl hg39 (v := .bool _) rfl) ?_
      refine tn rfl (fun _ hG => y_pickF rfl hg37 (v := .bool _) rfl) ?_
      refine tn rfl (fun _ hG => mvB rfl) ?_
      refine gspT 58 rfl (fun hg40 => ?_) (fun hg40 => ?_)
      ·
       have hg40n := hg40; try simp only [nm] at hg40n
       refine tns rfl rfl hg40 ?_
       refine tns rfl rfl hg40 ?_
       refine tns rfl rfl hg40 ?_
       refine tns rfl rfl hg40 ?_
       refine tns rfl rfl hg40 ?_
       refine tns rfl rfl hg40 ?_
       refine tns rfl rfl hg40 ?_
       refine tns rfl rfl hg40 ?_
       refine tns rfl rfl hg40 ?_
       refine t_end ?_
       have hz41 := hx35.size
       replace hN := hN.ext hx35
       replace hT := hT.ext hx35
       replace hE := hE.step hx35 (.inl (Nat.le_refl _))
       replace hb2 := hb2.ext hx35
       replace hP := hP.ext hx35
       replace hlp1 := hlp1.step hx35 (.inl (Nat.le_refl _))
       refine sts rfl rfl hg40 ?_
       refine sts rfl rfl hg40 ?_
       refine st (y_pickT rfl hg40 (v := .bool _) rfl) ?_
       refine rg_end ?_
       refine n_then ?_
       refine cnd rfl (fun hc3 => ?_) (fun hc3 => absurd hc3 (by decide))
       have hno : ¬ FoOk N tree := fun h => by
         have h1 := h.a.rng k (by omega)
         have h2 : 0 < k → el tree ((k : Int) - 1) < el tree (k : Int) := fun h0 => h.a.prev (by omega) h0
         have h3 := h.a.new k (by omega)
         first
         | omega
         | (rw [(ht_ _ _ ha.f0 ha.f1 ha.t0 ha.t1).2 (by assumption)] at h3; cases h3)
       refine wp_seq ?_
       refine rg ?_
       refine st (asB rfl) ?_
       refine rg_end ?_
       refine n_then ?_
       refine wp_ret ?_
       refine r_blk (r_then (r_then (r_blk (r_then (ret1 (v := (.bool _)) Try.results48 rfl ?_)))))
       exact ⟨false, rfl, ⟨fun h => (by cases h), fun h => absurd h hno⟩, hE⟩
      ·
       have hg40n := hg40; try simp only [nm] at hg40n
       have hik : 0 ≤ el tree (k : Int) ∧ el tree (k : Int) < N.acts.length := by omega
       have ha := hok.acs _ (el_mem hik.1 hik.2)
       have ht1 := ht_.name ha.f0 ha.f1 ha.t0 ha.t1
       rw [← conB_snoc, ← tkM (el N.acts) hc2] at ht1
       refine tng rfl rfl rfl hg40 (fun _ hG => mvS rfl) ?_
       refine tng rfl rfl rfl hg40 (fun _ hG => y_fld fld26_2 rfl) ?_
       refine tng rfl rfl rfl hg40 (fun _ hG => y_lb (hb2.ext hG) na24 rfl rfl) ?_
       refine tng rfl rfl rfl hg40 (fun _ hG => mvS rfl) ?_
       refine tng rfl rfl rfl hg40 (fun _ hG => mvI rfl) ?_
       refine tng rfl rfl rfl hg40 (fun _ hG => y_ix (hT.ext hG) sl22 rfl (rfl) rfl (by omega) (by omega)) ?_
       refine tng rfl rfl rfl hg40 (fun _ hG => y_le (hT.ext hG) na3 rfl (by omega) (by omega) rfl) ?_
       refine tng rfl rfl rfl hg40 (fun _ hG => y_ix (hN.a.ext hG) sl24 rfl (rfl) rfl (by omega) (by omega)) ?_
       refine tng rfl rfl rfl hg40 (fun _ hG => y_lw (hN.a.ext hG) agg36 rfl (by omega) (by omega)) ?_
       refine t_end ?_
       have hz42 := hx35.size
       replace hN := hN.ext hx35
       replace hT := hT.ext hx35
       replace hE := hE.step hx35 (.inl (Nat.le_refl _))
       replace hb2 := hb2.ext hx35
       replace hP := hP.ext hx35
       replace hlp1 := hlp1.step hx35 (.inl (Nat.le_refl _))
       refine scg rfl rfl hg40 cl51 (ref11_merge_ok N.evs.length P R _ _ _ _ _ _ hP hr (by omega) ha.f0 ha.f1 ha.t0 ha.t1) rfl ?_
       rintro v47 w43 ⟨P', rfl, hP'l, hP, hr1, ho44⟩
       have hz48 := ho44.size
       replace hN := hN.out ho44 (by first | omega | (simp only [blk_some, hi1_some] at *; omega))
       replace hT := hT.out ho44 (by first | omega | (simp only [blk_some, hi1_some] at *; omega))
       replace hE := hE.step ho44 (by first | omega | (simp only [blk_some, hi1_some] at *; omega))
       replace hb2 := hb2.out ho44 (by first | omega | (simp only [blk_some, hi1_some] at *; omega))
       replace hlp1 := hlp1.step ho44 (by first | omega | (simp only [blk_some, hi1_some] at *; omega))
       refine stg rfl rfl hg40 (y_not rfl) ?_
       refine st (y_pickF rfl hg40 (v := .bool _) rfl) ?_
       refine rg_end ?_
       refine n_then ?_
       refine cnd rfl (fun hc3 => ?_) (fun hc3 => ?_)
       ·
        try simp only [nm] at hc3
        have hno : ¬ FoOk N tree := fun h => by
          have h1 := h.a.rng k (by omega)
          have h2 : 0 < k → el tree ((k : Int) - 1) < el tree (k : Int) := fun h0 => h.a.prev (by omega) h0
          have h3 := h.a.new k (by omega)
          first
          | omega
          | (rw [(ht_ _ _ ha.f0 ha.f1 ha.t0 ha.t1).2 (by assumption)] at h3; cases h3)
        refine wp_seq ?_
        refine rg ?_
        refine st (asB rfl) ?_
        refine rg_end ?_
        refine n_then ?_
        refine wp_ret ?_
        refine r_blk (r_then (r_then (r_blk (r_then (ret1 (v := (.bool _)) Try.results48 rfl ?_)))))
        exact ⟨false, rfl, ⟨fun h => (by cases h), fun h => absurd h hno⟩, hE⟩
       ·
        try simp only [nm] at hc3
        have hnew : conB ((tree.take k).map (el N.acts)) (el N.acts (el tree (k : Int))).fr (el N.acts (el tree (k : Int))).tt = false := by
          cases e : conB ((tree.take k).map (el N.acts)) (el N.acts (el tree (k : Int))).fr (el N.acts (el tree (k : Int))).tt with
          | false => rfl
          | true => exact absurd ((ht_ _ _ ha.f0 ha.f1 ha.t0 ha.t1).1 e) (by assumption)
        have hfa1 := hfa.succ hik.1 hik.2 (fun h0 => by omega) hnew
        refine wp_skip ?_
        refine n_blk ?_
        refine n_then ?_
        refine rg ?_
        refine st (mvI rfl) ?_
        refine st (y_add rfl rfl (by omega)) ?_
        refine st (asI rfl) ?_
        refine rg_end ?_
        exact n_then ⟨(k + 1, P', _), _, rfl, same_lk rfl (same_h0), ⟨rfl, trivial⟩, ⟨hlp1, by omega, hr1, ht1, hfa1, hP⟩, by first | omega | (dsimp only; omega)⟩
     ·
      have hg39n := hg39; try simp only [nm] at hg39n
      refine tns rfl rfl hg39 ?_
      refine tns rfl rfl hg39 ?_
      refine tns rfl rfl hg39 ?_
      refine tns rfl rfl hg39 ?_
      refine tns rfl rfl hg39 ?_
      refine tns rfl rfl hg39 ?_
      refine tns rfl rfl hg39 ?_
      refine tns rfl rfl hg39 ?_
      refine tns rfl rfl hg39 ?_
      refine tns rfl rfl hg39 ?_
      refine tng rfl rfl rfl hg37 (fun _ hG => y_pickF rfl hg39 (v := .bool _) rfl) ?_
      refine tn rfl (fun _ hG => y_pickF rfl hg37 (v := .bool _) rfl) ?_
      refine tn rfl (fun _ hG => mvB rfl) ?_
      have hik : 0 ≤ el tree (k : Int) ∧ el tree (k : Int) < N.acts.length := by omega
      have ha := hok.acs _ (el_mem hik.1 hik.2)
      have ht1 := ht_.name ha.f0 ha.f1 ha.t0 ha.t1
      rw [← conB_snoc, ← tkM (el N.acts) hc2] at ht1
      refine tng rfl rfl rfl rfl (fun _ hG => mvS rfl) ?_
      refine tng rfl rfl rfl rfl (fun _ hG => y_fld fld26_2 rfl) ?_
      refine tng rfl rfl rfl rfl (fun _ hG => y_lb (hb2.ext hG) na24 rfl rfl) ?_
      refine tng rfl rfl rfl rfl (fun _ hG => mvS rfl) ?_
      refine tng rfl rfl rfl rfl (fun _ hG => mvI rfl) ?_
      refine tng rfl rfl rfl rfl (fun _ hG => y_ix (hT.ext hG) sl22 rfl (rfl) rfl (by omega) (by omega)) ?_
      refine tng rfl rfl rfl rfl (fun _ hG => y_le (hT.ext hG) na3 rfl (by omega) (by omega) rfl) ?_
      refine tng rfl rfl rfl rfl (fun _ hG => y_ix (hN.a.ext hG) sl24 rfl (rfl) rfl (by omega) (by omega)) ?_
      refine tng rfl rfl rfl rfl (fun _ hG => y_lw (hN.a.ext hG) agg36 rfl (by omega) (by omega)) ?_
      refine t_end ?_
      have hz49 := hx35.size
      replace hN := hN.ext hx35
      replace hT := hT.ext hx35
      replace hE := hE.step hx35 (.inl (Nat.le_refl _))
      replace hb2 := hb2.ext hx35
      replace hP := hP.ext hx35
      replace hlp1 := hlp1.step hx35 (.inl (Nat.le_refl _))
      refine scg rfl rfl rfl cl51 (ref11_merge_ok N.evs.length P R _ _ _ _ _ _ hP hr (by omega) ha.f0 ha.f1 ha.t0 ha.t1) rfl ?_
      rintro v54 w50 ⟨P', rfl, hP'l, hP, hr1, ho51⟩
      have hz55 := ho51.size
      replace hN := hN.out ho51 (by first | omega | (simp only [blk_some, hi1_some] at *; omega))
      replace hT := hT.out ho51 (by first | omega | (simp only [blk_some, hi1_some] at *; omega))
      replace hE := hE.step ho51 (by first | omega | (simp only [blk_some, hi1_some] at *; omega))
      replace hb2 := hb2.out ho51 (by first | omega | (simp only [blk_some, hi1_some] at *; omega))
      replace hlp1 := hlp1.step ho51 (by first | omega | (simp only [blk_some, hi1_some] at *; omega))
      refine stg rfl rfl rfl (y_not rfl) ?_
      refine st (y_pickF rfl rfl (v := .bool _) rfl) ?_
      refine rg_end ?_
      refine n_then ?_
      refine cnd rfl (fun hc3 => ?_) (fun hc3 => ?_)
      ·
       try simp only [nm] at hc3
       have hno : ¬ FoOk N tree := fun h => by
         have h1 := h.a.rng k (by omega)
         have h2 : 0 < k → el tree ((k : Int) - 1) < el tree (k : Int) := fun h0 => h.a.prev (by omega) h0
         have h3 := h.a.new k (by omega)
         first
         | omega
         | (rw [(ht_ _ _ ha.f0 ha.f1 ha.t0 ha.t1).2 (by assumption)] at h3; cases h3)
       refine wp_seq ?_
       refine rg ?_
       refine st (asB rfl) ?_
       refine rg_end ?_
       refine n_then ?_
       refine wp_ret ?_
       refine r_blk (r_then (r_then (r_blk (r_then (ret1 (v := (.bool _)) Try.results48 rfl ?_)))))
       exact ⟨false, rfl, ⟨fun h => (by cases h), fun h => absurd h hno⟩, hE⟩
      ·
       try simp only [nm] at hc3
       have hnew : conB ((tree.take k).map (el N.acts)) (el N.acts (el tree (k : Int))).fr (el N.acts (el tree (k : Int))).tt = false := by
         cases e : conB ((tree.take k).map (el N.acts)) (el N.acts (el tree (k : Int))).fr (el N.acts (el tree (k : Int))).tt with
         | false => rfl
         | true => exact absurd ((ht_ _ _ ha.f0 ha.f1 ha.t0 ha.t1).1 e) (by assumption)
       have hfa1 := hfa.succ hik.1 hik.2 (fun h0 => by omega) hnew
       refine wp_skip ?_
       refine n_blk ?_
       refine n_then ?_
       refine rg ?_
       refine st (mvI rfl) ?_
       refine st (y_add rfl rfl (by omega)) ?_
       refine st (asI rfl) ?_
       refine rg_end ?_
       exact n_then ⟨(k + 1, P', _), _, rfl, same_lk rfl (same_h0), ⟨rfl, trivial⟩, ⟨hlp1, by omega, hr1, ht1, hfa1, hP⟩, by first | omega | (dsimp only; omega)⟩
   ·
    try simp only [nm] at hc2
    rw [tkE hc2] at ht_
    have hkl : k = tree.length := by omega
    subst hkl
    have hPl := hr.1
    refine wp_exit ?_
    refine e_then (e_then (e_blk (?_)))
    refine n_then ?_
    refine wp_seq ?_
    refine wp_seq ?_
    refine rg ?_
    refine st (asI rfl) ?_
    refine rg_end ?_
    refine n_then ?_
    refine wp_block ?_
    refine lp (γ := Nat) [4, 8, 71, 72, 73, 74, 75, 76, 77, 78, 79, 80, 81, 82, 83, 84, 85, 86, 87, 88, 89, 90, 91, 92, 93, 94, 95, 96] (fun k => [(8, .int .i64 (k : Int))]) (fun k w_ => Ext w23 w_ ∧ (k : Int) ≤ N.acts.length ∧ ∀ i : Nat, i < k → conB (tree.map (el N.acts)) (el N.acts (i : Int)).fr (el N.acts (i : Int)).tt = true) (fun k => N.acts.length - k) 0 ⟨rfl, trivial⟩ ⟨Out.refl _ _ _, by omega, fun i hi => by omega⟩ ?_
    rintro k hav_ w56 ⟨ho57, hk, hsp⟩
    have hlp2 := ho57
    have hz58 := ho57.size
    replace hN := hN.ext ho57
    replace hT := hT.ext ho57
    replace hE := hE.step ho57 (.inl (Nat.le_refl _))
    replace hb2 := hb2.ext ho57
    replace hP := hP.ext ho57
    refine wp_seq ?_
    refine wp_seq ?_
    refine rg ?_
    refine st (mvI rfl) ?_
    refine st (y_fld fld26_2 rfl) ?_
    refine st (y_lb hb2 na24 rfl rfl) ?_
    refine st (y_len Try.underlying24 rfl) ?_
    refine st (y_lss rfl rfl) ?_
    refine rg_end ?_
    refine n_then ?_
    refine cnd rfl (fun hc4 => ?_) (fun hc4 => ?_)
    ·
     try simp only [nm] at hc4
     have ha2 := hok.acs _ (el_mem (l := N.acts) (i := (k : Int)) (by omega) (by omega))
     have htk := ht_ _ _ ha2.f0 ha2.f1 ha2.t0 ha2.t1
     have q1 := hr.2 _ ha2.f0 ha2.f1
     have q2 := hr.2 _ ha2.t0 ha2.t1
     refine wp_skip ?_
     refine n_then ?_
     refine wp_seq ?_
     refine wp_block ?_
     refine wp_seq ?_
     refine rgD 18 (fun w_ => Ext w56 w_) (fun i => false) mixed (by kernel_rfl) ?_
     intro w59 ho60 hs61
     refine ⟨ho60, ?_⟩
     have hx62 := ho60
     refine tn rfl (fun _ hG => mvS rfl) ?_
     refine tn rfl (fun _ hG => y_fld fld26_2 rfl) ?_
     refine tn rfl (fun _ hG => y_lb (hb2.ext hG) na24 rfl rfl) ?_
     refine tn rfl (fun _ hG => mvI rfl) ?_
     refine tn rfl (fun _ hG => y_ix (hN.a.ext hG) sl24 rfl (rfl) rfl (by omega) (by omega)) ?_
     refine tn rfl (fun _ hG => y_fld fld36_1 rfl) ?_
     refine tn rfl (fun _ hG => y_lf (hN.a.ext hG) na3 rfl (by omega) (by omega) rfl) ?_
     refine tn rfl (fun _ hG => y_ix (hP.ext hG).sl sl22 rfl (hr.1.symm) rfl (ha2.f0) (by have := ha2.f1; omega)) ?_
     refine tn rfl (fun _ hG => y_le (hP.ext hG).sl na3 rfl (ha2.f0) (by have := ha2.f1; omega) rfl) ?_
     refine tn rfl (fun _ hG => mvS rfl) ?_
     refine tn rfl (fun _ hG => y_fld fld26_2 rfl) ?_
     refine tn rfl (fun _ hG => y_lb (hb2.ext hG) na24 rfl rfl) ?_
     refine tn rfl (fun _ hG => mvI rfl) ?_
     refine tn rfl (fun _ hG => y_ix (hN.a.ext hG) sl24 rfl (rfl) rfl (by omega) (by omega)) ?_
     refine tn rfl (fun _ hG => y_fld fld36_2 rfl) ?_
     refine tn rfl (fun _ hG => y_lf (hN.a.ext hG) na3 rfl (by omega) (by omega) rfl) ?_
     refine tn rfl (fun _ hG => y_ix (hP.ext hG).sl sl22 rfl (hr.1.symm) rfl (ha2.t0) (by have := ha2.t1; omega)) ?_
     refine tn rfl (fun _ hG => y_le (hP.ext hG).sl na3 rfl (ha2.t0) (by have := ha2.t1; omega) rfl) ?_
     refine t_end ?_
     have hz63 := hx62.size
     replace hN := hN.ext hx62
     replace hT := hT.ext hx62
     replace hE := hE.step hx62 (.inl (Nat.le_refl _))
     replace hb2 := hb2.ext hx62
     replace hP := hP.ext hx62
     replace hlp2 := hlp2.step hx62 (.inl (Nat.le_refl _))
     refine st (y_neq rfl rfl) ?_
     refine rg_end ?_
     refine n_then ?_
     refine cnd rfl (fun hc5 => ?_) (fun hc5 => ?_)
     ·
      try simp only [nm] at hc5
      have hno : ¬ FoOk N tree := fun h => by
        have h1 := htk.1 (h.span k (by omega))
        omega
      refine wp_seq ?_
      refine rg ?_
      refine st (asB rfl) ?_
      refine rg_end ?_
      refine n_then ?_
      refine wp_ret ?_
      refine r_blk (r_then (r_then (r_blk (r_then (ret1 (v := (.bool _)) Try.results48 rfl ?_)))))
      exact ⟨false, rfl, ⟨fun h => (by cases h), fun h => absurd h hno⟩, hE⟩
     ·
      try simp only [nm] at hc5
      have hsp1 : ∀ i : Nat, i < k + 1 → conB (tree.map (el N.acts)) (el N.acts (i : Int)).fr (el N.acts (i : Int)).tt = true := fun i hi => by
        by_cases e : i = k
        · subst e; exact htk.2 (by omega)
        · exact hsp i (by omega)
      refine wp_skip ?_
      refine n_blk ?_
      refine n_then ?_
      refine rg ?_
      refine st (mvI rfl) ?_
      refine st (y_add rfl rfl (by omega)) ?_
      refine st (asI rfl) ?_
      refine rg_end ?_
      exact n_then ⟨k + 1, _, rfl, same_lk rfl (same_h0), ⟨rfl, trivial⟩, ⟨hlp2, by omega, hsp1⟩, by first | omega | (dsimp only; omega)⟩
    ·
     try simp only [nm] at hc4
     refine wp_exit ?_
     refine e_then (e_then (e_blk (?_)))
     refine n_then ?_
     refine wp_seq ?_
     refine rg ?_
     refine st (asB rfl) ?_
     refine rg_end ?_
     refine n_then ?_
     refine wp_ret ?_
     refine ret1 (v := (.bool _)) Try.results48 rfl ?_
     exact ⟨true, rfl, ⟨fun _ => ⟨hok, hfa, fun i hi => hsp i (by omega)⟩, fun _ => rfl⟩, hE⟩
end Go.Proofs.Ytclligkngjhihaa
