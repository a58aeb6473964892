/-
  Walks of the functions, printed by a program out of the code and the loops' relations.
-/
import Derived.Test.YtgekfafangcggaaWkD
import Derived.Test.YtgekfafangcggaaProg
import Derived.KernelRfl
import Derived.Test.YtgekfafangcggaaS9
namespace Go.Proofs.Ytgekfafangcggaa
open Go.Wk Go.RowKit
set_option linter.unusedVariables false
set_option linter.unusedSimpArgs false
theorem cl20 : Callable Try.prog 20 := ⟨Try.call20⟩
theorem cl24 : Callable Try.prog 24 := ⟨Try.call24⟩

/-- A network in which all good times are feasible. -/
def wdA (N : Net) (a : Ac) : Ac := { a with mx := a.mn + N.p - 1 }
def wdN (N : Net) (k : Nat) : Net := ⟨N.p, N.evs, (N.acts.take k).map (wdA N) ++ N.acts.drop k⟩
theorem wd_len {N : Net} {k : Nat} : (wdN N k).acts.length = N.acts.length := by
  unfold wdN
  simp only [List.length_append, List.length_map, List.length_take, List.length_drop]; omega
theorem wd_el {N : Net} {k : Nat} (hk : k < N.acts.length) : el (wdN N k).acts (k : Int) = el N.acts (k : Int) := by
  have hl : ((N.acts.take k).map (wdA N)).length = k := by rw [List.length_map, List.length_take]; omega
  show ((N.acts.take k).map (wdA N) ++ N.acts.drop k).getD (k : Int).toNat default = N.acts.getD (k : Int).toNat default
  rw [Int.toNat_natCast, List.getD_eq_getElem?_getD, List.getD_eq_getElem?_getD, List.getElem?_append_right (by omega), hl, Nat.sub_self, List.getElem?_drop, Nat.add_zero]
theorem wd_set {N : Net} {k : Nat} (hk : k < N.acts.length) : (wdN N k).acts.set (k : Int).toNat (wdA N (el N.acts (k : Int))) = (wdN N (k + 1)).acts := by
  unfold wdN
  have hl : ((N.acts.take k).map (wdA N)).length = k := by rw [List.length_map, List.length_take]; omega
  have e : el N.acts (k : Int) = N.acts[k] := by simp [el, hk]
  show ((N.acts.take k).map (wdA N) ++ N.acts.drop k).set (k : Int).toNat _ = (N.acts.take (k + 1)).map (wdA N) ++ N.acts.drop (k + 1)
  rw [Int.toNat_natCast, List.set_append_right k _ (by omega), hl, Nat.sub_self, List.drop_eq_getElem_cons hk, List.set_cons_zero, List.take_succ_eq_append_getElem hk, List.map_append, e]
  simp
theorem wd_all {N : Net} : (wdN N N.acts.length).acts = N.acts.map (wdA N) := by
  unfold wdN; rw [List.take_length, List.drop_length, List.append_nil]
theorem wd_ok {N : Net} (h : SmallNet N) : SmallNet (wdN N N.acts.length) ∧ ∀ a ∈ (wdN N N.acts.length).acts, a.mx = a.mn + N.p - 1 := by
  obtain ⟨ok, p2, p9, e1, e5, ac, hr⟩ := h
  have hm : ∀ a ∈ (wdN N N.acts.length).acts, ∃ b ∈ N.acts, wdA N b = a := fun a ha => by rw [wd_all] at ha; exact List.mem_map.1 ha
  refine ⟨⟨⟨ok.p2, ok.p7, ok.ev, by rw [wd_len]; exact ok.ac, fun a ha => ?_⟩, p2, p9, e1, e5, by rw [wd_len]; exact ac, fun a ha => ?_⟩, fun a ha => ?_⟩
  · obtain ⟨b, hb, rfl⟩ := hm a ha
    have q := ok.acs b hb
    have := hr b hb
    exact ⟨q.f0, q.f1, q.t0, q.t1, q.ne, q.m0, by show b.mn ≤ b.mn + N.p - 1; omega, by show b.mn + N.p - 1 ≤ 65536; omega, by show b.mn + N.p - 1 - b.mn < N.p; omega, q.w0, q.w1⟩
  · obtain ⟨b, hb, rfl⟩ := hm a ha; exact hr b hb
  · obtain ⟨b, hb, rfl⟩ := hm a ha; rfl
theorem wide_feas {N : Net} (hw : ∀ a ∈ N.acts, a.mx = a.mn + N.p - 1) {t : List Int} (hg : GoodT N t) : feas N t = true := by
  refine feas_iff.2 ⟨hg, fun a ha => ?_⟩
  have := slk_rng (N := N) (t := t) (a := a) hg.ok.p2
  have := hw a ha
  omega

set_option maxHeartbeats 1000000 in
set_option maxRecDepth 100000 in
theorem law16_wide_ok (a0 : Option Addr) (c0 : Nat) (l0 : List Int) (w : World) (hL0 : Ints 0 w.heap.size w a0 l0) (hl0 : (l0.length : Int) ≤ 9223372036854775807) : Cal Try.prog 20 [.slice a0 l0.length c0] w (fun v w' => ∃ N A, v = netV N A ∧ SmallNet N ∧ (∀ a ∈ N.acts, a.mx = a.mn + N.p - 1) ∧ NetIn w.heap.size w'.heap.size w' N A ∧ Ext w w') := by
  have hE : Out 0 0 w w := Out.refl _ _ w
  refine enter Try.func20 rfl Try.ntmps20 rfl ?_
  refine wp_seq ?_
  refine rg ?_
  refine sd (d_allocA zer26 ?_)
  intro b2 w1 hbb2 hs3 ho2 hb2
  have hz4 := ho2.size
  replace hL0 := hL0.ext ho2
  replace hE := hE.step ho2 (.inl (Nat.le_refl _))
  refine rg_end ?_
  refine n_then ?_
  refine wp_seq ?_
  refine rg ?_
  refine st (mvS rfl) ?_
  refine sc cl12 (keep_Network_ok _ _ _ _ _ _ hL0 hl0) rfl ?_
  rintro v9 w5 ⟨N, A, rfl, hsm, hev, hac, hdis, ho6⟩
  obtain ⟨zz, hzz⟩ : ∃ z, z = w.heap.size + 1 := ⟨_, rfl⟩
  have hevr := hev.rng
  have hacr := hac.rng
  have hEv : Sl encEv 3 (blk A.ae) (hi1 A.ae) _ A.ae N.evs := ⟨fun h => by
    obtain ⟨⟨bb, oo, hbo⟩, _⟩ := (Ow.sl hev).plain h
    exact ⟨((Ow.sl hev).plain h).1, Nat.le_refl _, by rw [hbo]; exact Nat.lt_succ_self _⟩, (Ow.sl hev).cell⟩
  obtain ⟨⟨be_, oe_, hbe⟩, _⟩ := (Ow.sl hev).plain (fun h => by have h2 := hsm.2.2.2.1; rw [h] at h2; simp at h2)
  have hh1 : hi1 A.ae = blk A.ae + 1 := by rw [hbe]; rfl
  have hok := hsm.1
  have hacn := hok.ac
  have hp2 := hok.p2
  have hp7 := hok.p7
  have hz10 := ho6.size
  replace hL0 := hL0.ext ho6
  replace hE := hE.step ho6 (.inl (Nat.le_refl _))
  replace hb2 := hb2.ext ho6
  refine sd (d_allocA zer26 ?_)
  intro b3 w11 hbb3 hs13 ho12 hb3
  have hz14 := ho12.size
  replace hL0 := hL0.ext ho12
  replace hE := hE.step ho12 (.inl (Nat.le_refl _))
  replace hb2 := hb2.ext ho12
  replace hEv := hEv.ext ho12
  replace hac := hac.ext ho12
  obtain ⟨zh, hzh⟩ : ∃ z, z = w11.heap.size := ⟨_, rfl⟩
  refine sd0 (d_stN hb3 rfl rfl sz26 rfl rfl ?_)
  intro w15 hs17 ho16 hb3'
  clear hb3; have hb3 := hb3'; clear hb3'
  have hz18 := ho16.size
  replace hL0 := hL0.out ho16 (by first | omega | (simp only [blk_some, hi1_some] at *; omega))
  replace hE := hE.step ho16 (by first | omega | (simp only [blk_some, hi1_some] at *; omega))
  replace hb2 := hb2.out ho16 (by first | omega | (simp only [blk_some, hi1_some] at *; omega))
  replace hEv := hEv.out ho16 (by first | omega | (simp only [blk_some, hi1_some] at *; omega))
  have hrnhac := hac.rng
  replace hac := hac.out ho16 (by first | omega | (simp only [blk_some, hi1_some] at *; omega))
  refine rg_end ?_
  refine n_then ?_
  refine wp_seq ?_
  refine wp_seq ?_
  refine rg ?_
  refine st (y_fld fld26_2 rfl) ?_
  refine st (y_lb hb3 na24 rfl rfl) ?_
  refine st (y_len Try.underlying24 rfl) ?_
  refine st (mvI rfl) ?_
  refine rg_end ?_
  refine n_then ?_
  refine wp_block ?_
  refine lp (γ := Nat) [4, 10, 11, 12, 13, 14, 15, 16, 17, 18, 19, 20, 21, 22, 23, 24, 25, 26, 27, 28] (fun k => [(10, .int .i64 (k : Int))]) (fun k w_ => Out (blk A.aa) (hi1 A.aa) w15 w_ ∧ (k : Int) ≤ N.acts.length ∧ Ow 36 encAc 6 zz zh w_ A.aa A.ca (wdN N k).acts) (fun k => N.acts.length - k) 0 ⟨rfl, trivial⟩ ⟨Out.refl _ _ _, by omega, by first | exact (hac.lower (by omega)).wide (by omega) | exact hac⟩ ?_
  rintro k hav_ w19 ⟨ho20, hk_, hac⟩
  have hlp0 := ho20
  have hz21 := ho20.size
  replace hL0 := hL0.out ho20 (by first | omega | (simp only [blk_some, hi1_some] at *; omega))
  replace hE := hE.step ho20 (by first | omega | (simp only [blk_some, hi1_some] at *; omega))
  replace hb2 := hb2.out ho20 (by first | omega | (simp only [blk_some, hi1_some] at *; omega))
  replace hEv := hEv.out ho20 (by first | omega | (simp only [blk_some, hi1_some] at *; omega))
  replace hb3 := hb3.out ho20 (by first | omega | (simp only [blk_some, hi1_some] at *; omega))
  refine wp_seq ?_
  refine rg ?_
  refine st (y_lss rfl rfl) ?_
  refine rg_end ?_
  refine n_then ?_
  refine wp_seq ?_
  refine cnd rfl (fun hc0 => ?_) (fun hc0 => ?_)
  ·
    try simp only [decide_eq_true_eq, decide_eq_false_iff_not, Bool.not_eq_true', Bool.not_eq_false', Bool.and_eq_true, Bool.or_eq_true, Bool.or_eq_false_iff, Bool.cond_true_right, Bool.cond_false_right, Bool.cond_true_left, Bool.cond_false_left, ne_eq, Decidable.not_not, bne_iff_ne, beq_iff_eq, beq_eq_false_iff_ne, Bool.not_true, Bool.not_false] at hc0
    have ha := hok.acs _ (el_mem (l := N.acts) (i := (k : Int)) (by omega) hc0)
    have hwe := wd_el (N := N) (k := k) (by omega)
    have hwl := wd_len (N := N) (k := k)
    have m0 := ha.m0
    have m1 := ha.m1
    have m2 := ha.m2
    refine wp_skip ?_
    refine n_then ?_
    refine wp_seq ?_
    refine wp_block ?_
    refine wp_seq ?_
    refine rg ?_
    refine st (mvI rfl) ?_
    refine st (asI rfl) ?_
    refine rg_end ?_
    refine n_then ?_
    refine rgD 13 (fun w_ => Ext w19 w_) (fun i => false) mixed (by kernel_rfl) ?_
    intro w22 ho23 hs24
    refine ⟨ho23, ?_⟩
    have hx25 := ho23
    refine tn rfl (fun _ hG => y_fld fld26_2 rfl) ?_
    refine tn rfl (fun _ hG => y_lb (hb3.ext hG) na24 rfl rfl) ?_
    refine tn rfl (fun _ hG => mvI rfl) ?_
    refine tn rfl (fun _ hG => y_fld fld26_2 rfl) ?_
    refine tn rfl (fun _ hG => y_lb (hb3.ext hG) na24 rfl rfl) ?_
    refine tn rfl (fun _ hG => mvI rfl) ?_
    refine tn rfl (fun _ hG => y_ix (hac.ext hG).sl sl24 rfl (wd_len.symm) rfl (by omega) (by omega)) ?_
    refine tn rfl (fun _ hG => y_fld fld36_3 rfl) ?_
    refine tn rfl (fun _ hG => y_lf (hac.ext hG).sl na3 rfl (by omega) (by omega) rfl) ?_
    rw [hwe]
    refine tn rfl (fun _ hG => y_fld fld26_0 rfl) ?_
    refine tn rfl (fun _ hG => y_lb (hb3.ext hG) na3 rfl rfl) ?_
    refine tn rfl (fun _ hG => y_add rfl rfl (by omega)) ?_
    refine tn rfl (fun _ hG => y_sub rfl rfl (by omega)) ?_
    refine t_end ?_
    have hz26 := hx25.size
    replace hL0 := hL0.ext hx25
    replace hE := hE.step hx25 (.inl (Nat.le_refl _))
    replace hb2 := hb2.ext hx25
    replace hEv := hEv.ext hx25
    replace hb3 := hb3.ext hx25
    replace hac := hac.ext hx25
    replace hlp0 := hlp0.step hx25 (.inl (Nat.le_refl _))
    refine st (y_ix hac.sl sl24 rfl (wd_len.symm) rfl (by omega) (by omega)) ?_
    refine st (y_fld fld36_4 rfl) ?_
    refine sd0 (d_se (j := 4) (e' := (wdA N (el N.acts (k : Int)))) hac sz3 rfl rfl rfl (by omega) (by omega) (Nat.le_of_ble_eq_true rfl) (by rw [hwe]; rfl) ?_)
    intro w27 hs29 ho28 hac'
    have hrhac := hac.rng
    clear hac; have hac := hac'; clear hac'
    have hz30 := ho28.size
    replace hL0 := hL0.out ho28 (by first | omega | (simp only [blk_some, hi1_some] at *; omega))
    replace hE := hE.step ho28 (by first | omega | (simp only [blk_some, hi1_some] at *; omega))
    replace hb2 := hb2.out ho28 (by first | omega | (simp only [blk_some, hi1_some] at *; omega))
    replace hEv := hEv.out ho28 (by first | omega | (simp only [blk_some, hi1_some] at *; omega))
    replace hb3 := hb3.out ho28 (by first | omega | (simp only [blk_some, hi1_some] at *; omega))
    replace hlp0 := hlp0.step ho28 (by first | omega | (simp only [blk_some, hi1_some] at *; omega))
    rw [wd_set (by omega)] at hac
    refine rg_end ?_
    refine n_blk ?_
    refine n_then ?_
    refine rg ?_
    refine st (y_add rfl rfl (by omega)) ?_
    refine st (mvI rfl) ?_
    refine rg_end ?_
    exact n_then ⟨k + 1, _, rfl, same_lk rfl (same_h0), ⟨rfl, trivial⟩, ⟨hlp0, by omega, hac⟩, by first | omega | (dsimp only; omega)⟩
  ·
    try simp only [decide_eq_true_eq, decide_eq_false_iff_not, Bool.not_eq_true', Bool.not_eq_false', Bool.and_eq_true, Bool.or_eq_true, Bool.or_eq_false_iff, Bool.cond_true_right, Bool.cond_false_right, Bool.cond_true_left, Bool.cond_false_left, ne_eq, Decidable.not_not, bne_iff_ne, beq_iff_eq, beq_eq_false_iff_ne, Bool.not_true, Bool.not_false] at hc0
    have hke : k = N.acts.length := by omega
    subst hke
    obtain ⟨hs1, hs2⟩ := wd_ok hsm
    have hwl := wd_len (N := N) (k := N.acts.length)
    refine wp_exit ?_
    refine e_then (e_then (e_blk (?_)))
    refine n_then ?_
    refine wp_seq ?_
    refine rg ?_
    refine st (y_lbN hb3 agg26 rfl) ?_
    refine sd0 (d_stN hb2 rfl rfl sz26 rfl rfl ?_)
    intro w31 hs33 ho32 hb2'
    clear hb2; have hb2 := hb2'; clear hb2'
    have hz34 := ho32.size
    replace hL0 := hL0.out ho32 (by first | omega | (simp only [blk_some, hi1_some] at *; omega))
    replace hE := hE.step ho32 (by first | omega | (simp only [blk_some, hi1_some] at *; omega))
    replace hEv := hEv.out ho32 (by first | omega | (simp only [blk_some, hi1_some] at *; omega))
    replace hb3 := hb3.out ho32 (by first | omega | (simp only [blk_some, hi1_some] at *; omega))
    have hrnhac := hac.rng
    replace hac := hac.out ho32 (by first | omega | (simp only [blk_some, hi1_some] at *; omega))
    refine rg_end ?_
    refine n_then ?_
    refine wp_ret ?_
    refine retC Try.results20 hb2 agg26 rfl ?_
    exact ⟨wdN N N.acts.length, A, by unfold netV netCells; rw [hwl]; rfl, hs1, hs2, ⟨Sl.wide hEv (by omega) (by omega), Sl.wide (Ow.sl hac) (by omega) (by omega)⟩, hE⟩

set_option maxHeartbeats 1000000 in
set_option maxRecDepth 100000 in
theorem law16_SimplexWide_ok (a0 : Option Addr) (c0 : Nat) (l0 : List Int) (a1 : Option Addr) (c1 : Nat) (l1 : List Int) (out into B : Int) (w : World) (hL0 : Ints 0 w.heap.size w a0 l0) (hl0 : (l0.length : Int) ≤ 9223372036854775807) (hL1 : Ints 0 w.heap.size w a1 l1) (hl1 : (l1.length : Int) ≤ 9223372036854775807)  : Cal Try.prog 11 [.slice a0 l0.length c0, .slice a1 l1.length c1, .int .i64 out, .int .i64 into, .int .i64 B] w (fun v w' => v = .bool true ∧ Ext w w') := by
  have hE : Out 0 0 w w := Out.refl _ _ w
  refine enter Try.func11 rfl Try.ntmps11 rfl ?_
  refine wp_seq ?_
  refine rg ?_
  refine st (asB rfl) ?_
  refine rg_end ?_
  refine n_then ?_
  refine wp_seq ?_
  refine rg ?_
  refine st (mvS rfl) ?_
  refine sc cl20 (law16_wide_ok _ _ _ _ hL0 hl0) rfl ?_
  rintro v5 w1 ⟨N, A, rfl, hsm, hwd, hN, ho2⟩
  have hok := hsm.1
  have hac := hok.ac
  have hev := hok.ev
  have hp2 := hok.p2
  have hp7 := hok.p7
  have hz6 := ho2.size
  replace hL0 := hL0.ext ho2
  replace hL1 := hL1.ext ho2
  replace hE := hE.step ho2 (.inl (Nat.le_refl _))
  refine sd (d_allocA zer26 ?_)
  intro b11 w7 hbb11 hs9 ho8 hb11
  have hz10 := ho8.size
  replace hL0 := hL0.ext ho8
  replace hL1 := hL1.ext ho8
  replace hE := hE.step ho8 (.inl (Nat.le_refl _))
  replace hN := hN.ext ho8
  refine sd0 (d_stN hb11 rfl rfl sz26 rfl rfl ?_)
  intro w11 hs13 ho12 hb11'
  clear hb11; have hb11 := hb11'; clear hb11'
  have hz14 := ho12.size
  replace hL0 := hL0.out ho12 (by first | omega | (simp only [blk_some, hi1_some] at *; omega))
  replace hL1 := hL1.out ho12 (by first | omega | (simp only [blk_some, hi1_some] at *; omega))
  replace hE := hE.step ho12 (by first | omega | (simp only [blk_some, hi1_some] at *; omega))
  replace hN := hN.out ho12 (by first | omega | (simp only [blk_some, hi1_some] at *; omega))
  refine rg_end ?_
  refine n_then ?_
  refine wp_seq ?_
  refine rg ?_
  refine st (y_fld fld26_2 rfl) ?_
  refine st (y_lb hb11 na24 rfl rfl) ?_
  refine st (y_len Try.underlying24 rfl) ?_
  refine st (y_add rfl rfl (by omega)) ?_
  refine st (asI rfl) ?_
  refine rg_end ?_
  refine n_then ?_
  refine wp_seq ?_
  refine rg ?_
  refine st (y_lbN hb11 agg26 rfl) ?_
  refine st (mvS rfl) ?_
  refine sc cl21 (keep_Times_ok N A _ _ _ _ _ _ _ _ hN hL1 hl1 (by omega) (by omega)) rfl ?_
  rintro v19 w15 ⟨ax, cx, x, rfl, hX, hxl, hxr, ho16⟩
  have hg : GoodT N x := ⟨hok, hxl, hxr⟩
  have hft := wide_feas hwd hg
  have hz20 := ho16.size
  replace hL0 := hL0.ext ho16
  replace hL1 := hL1.ext ho16
  replace hE := hE.step ho16 (.inl (Nat.le_refl _))
  replace hN := hN.ext ho16
  replace hb11 := hb11.ext ho16
  refine st (asS rfl) ?_
  refine rg_end ?_
  refine n_then ?_
  refine wp_seq ?_
  refine rgD 23 (fun w_ => Ext w15 w_) (fun i => Nat.beq i 0 || Nat.beq i 4 || Nat.beq i 8 || Nat.beq i 12 || Nat.beq i 14 || Nat.beq i 19 || Nat.beq i 22) mixed (by kernel_rfl) ?_
  intro w21 ho22 hs23
  refine ⟨ho22, ?_⟩
  have hx24 := ho22
  refine tc rfl cl14 (law16_awake_ok _) rfl ?_
  rintro v29 w25 ⟨rfl, ho26⟩
  have hx30 := hx24.step ho26 (.inl (Nat.le_refl _))
  have hz31 := ho26.size
  refine ⟨hx30, ?_⟩
  refine tn rfl (fun _ hG => mvB rfl) ?_
  refine tng rfl rfl rfl rfl (fun _ hG => y_lbN (hb11.ext hG) agg26 rfl) ?_
  refine tng rfl rfl rfl rfl (fun _ hG => y_lbN (hb11.ext hG) agg26 rfl) ?_
  refine tcg rfl rfl rfl rfl cl13 (ref11_TreeF_ok N A _ _ _ (hN.ext hx30) hok) rfl ?_
  rintro v36 w32 ⟨ar1, cr1, tree1, rfl, hTr1, hfo1, htl1, hcap1, ho33⟩
  have hx37 := hx30.step ho33 (.inl (Nat.le_refl _))
  have hz38 := ho33.size
  refine ⟨hx37, ?_⟩
  refine tng rfl rfl rfl rfl (fun _ hG => mvS rfl) ?_
  refine tng rfl rfl rfl rfl (fun _ hG => mvI rfl) ?_
  refine tng rfl rfl rfl rfl (fun _ hG => mvI rfl) ?_
  refine tcg rfl rfl rfl rfl cl15 (keep_Pick_ok _ _ _ (by omega) (by omega)) rfl ?_
  rintro v43 w39 ⟨rfl, ho40⟩
  have hp1 := pick_rng out ((N.acts.length : Int) + 2) (by omega)
  have hx44 := hx37.step ho40 (.inl (Nat.le_refl _))
  have hz45 := ho40.size
  replace hTr1 := hTr1.ext ho40
  refine ⟨hx44, ?_⟩
  refine tng rfl rfl rfl rfl (fun _ hG => y_sub rfl rfl (by omega)) ?_
  refine tng rfl rfl rfl rfl (fun _ hG => mvI rfl) ?_
  refine tng rfl rfl rfl rfl (fun _ hG => mvI rfl) ?_
  refine tcg rfl rfl rfl rfl cl15 (keep_Pick_ok _ _ _ (by omega) (by omega)) rfl ?_
  rintro v50 w46 ⟨rfl, ho47⟩
  have hp2 := pick_rng into ((N.acts.length : Int) + 2) (by omega)
  have hx51 := hx44.step ho47 (.inl (Nat.le_refl _))
  have hz52 := ho47.size
  replace hTr1 := hTr1.ext ho47
  refine ⟨hx51, ?_⟩
  refine tng rfl rfl rfl rfl (fun _ hG => y_sub rfl rfl (by omega)) ?_
  refine tcg rfl rfl rfl rfl cl30 (law16_agrees_ok N A _ _ tree1 _ _ _ _ x _ _ _ _ (pick out ((N.acts.length : Int) + 2) - 1) (pick into ((N.acts.length : Int) + 2) - 1) _ (hN.ext hx51) hTr1 (by omega) (hX.ext hx51) (by omega)) rfl ?_
  rintro v57 w53 ⟨rfl, ho54⟩
  have hx58 := hx51.step ho54 (.inl (Nat.le_refl _))
  have hz59 := ho54.size
  replace hTr1 := hTr1.ext ho54
  refine ⟨hx58, ?_⟩
  refine tn rfl (fun _ hG => y_pickT rfl rfl (v := .bool _) rfl) ?_
  refine tn rfl (fun _ hG => mvB rfl) ?_
  refine tng rfl rfl rfl rfl (fun _ hG => y_lbN (hb11.ext hG) agg26 rfl) ?_
  refine tng rfl rfl rfl rfl (fun _ hG => y_lbN (hb11.ext hG) agg26 rfl) ?_
  refine tcg rfl rfl rfl rfl cl13 (ref11_TreeF_ok N A _ _ _ (hN.ext hx58) hok) rfl ?_
  rintro v64 w60 ⟨ar2, cr2, tree2, rfl, hTr2, hfo2, htl2, hcap2, ho61⟩
  have hx65 := hx58.step ho61 (.inl (Nat.le_refl _))
  have hz66 := ho61.size
  replace hTr1 := hTr1.ext ho61
  refine ⟨hx65, ?_⟩
  refine tng rfl rfl rfl rfl (fun _ hG => mvS rfl) ?_
  refine tng rfl rfl rfl rfl (fun _ hG => mvI rfl) ?_
  refine tcg rfl rfl rfl rfl cl15 (keep_Pick_ok _ _ _ (by omega) (by omega)) rfl ?_
  rintro v71 w67 ⟨rfl, ho68⟩
  have hp3 := pick_rng B 40 (by omega)
  have hx72 := hx65.step ho68 (.inl (Nat.le_refl _))
  have hz73 := ho68.size
  replace hTr1 := hTr1.ext ho68
  replace hTr2 := hTr2.ext ho68
  refine ⟨hx72, ?_⟩
  refine t_end ?_
  have hz74 := hx72.size
  replace hL0 := hL0.ext hx72
  replace hL1 := hL1.ext hx72
  replace hE := hE.step hx72 (.inl (Nat.le_refl _))
  replace hN := hN.ext hx72
  replace hb11 := hb11.ext hx72
  replace hX := hX.ext hx72
  refine scg rfl rfl rfl cl31 (law16_solves_ok N A _ _ tree2 _ _ _ _ x _ _ _ _ (pick B 40) _ hN hTr2 (by omega) hX) rfl ?_
  rintro v79 w75 ⟨rfl, ho76⟩
  have hz80 := ho76.size
  replace hL0 := hL0.ext ho76
  replace hL1 := hL1.ext ho76
  replace hE := hE.step ho76 (.inl (Nat.le_refl _))
  replace hN := hN.ext ho76
  replace hb11 := hb11.ext ho76
  replace hX := hX.ext ho76
  replace hTr1 := hTr1.ext ho76
  replace hTr2 := hTr2.ext ho76
  refine st (y_pickT rfl rfl (v := .bool _) rfl) ?_
  refine st (asB rfl) ?_
  refine rg_end ?_
  refine n_then ?_
  refine wp_ret ?_
  refine ret1 (v := (.bool _)) Try.results11 rfl ?_
  exact ⟨rfl, hE⟩

set_option maxHeartbeats 1000000 in
set_option maxRecDepth 100000 in
theorem law16_SimplexMoveTightens_ok (a0 : Option Addr) (c0 : Nat) (l0 : List Int) (a1 : Option Addr) (c1 : Nat) (l1 : List Int) (out into : Int) (w : World) (hL0 : Ints 0 w.heap.size w a0 l0) (hl0 : (l0.length : Int) ≤ 9223372036854775807) (hL1 : Ints 0 w.heap.size w a1 l1) (hl1 : (l1.length : Int) ≤ 9223372036854775807)  : Cal Try.prog 5 [.slice a0 l0.length c0, .slice a1 l1.length c1, .int .i64 out, .int .i64 into] w (fun v w' => v = .bool true ∧ Ext w w') := by
  have hE : Out 0 0 w w := Out.refl _ _ w
  refine enter Try.func5 rfl Try.ntmps5 rfl ?_
  refine wp_seq ?_
  refine rg ?_
  refine st (asB rfl) ?_
  refine rg_end ?_
  refine n_then ?_
  refine wp_seq ?_
  refine rg ?_
  refine st (mvS rfl) ?_
  refine sc cl20 (law16_wide_ok _ _ _ _ hL0 hl0) rfl ?_
  rintro v5 w1 ⟨N, A, rfl, hsm, hwd, hN, ho2⟩
  have hok := hsm.1
  have hac := hok.ac
  have hev := hok.ev
  have hp2 := hok.p2
  have hp7 := hok.p7
  have hz6 := ho2.size
  replace hL0 := hL0.ext ho2
  replace hL1 := hL1.ext ho2
  replace hE := hE.step ho2 (.inl (Nat.le_refl _))
  refine sd (d_allocA zer26 ?_)
  intro b9 w7 hbb9 hs9 ho8 hb9
  have hz10 := ho8.size
  replace hL0 := hL0.ext ho8
  replace hL1 := hL1.ext ho8
  replace hE := hE.step ho8 (.inl (Nat.le_refl _))
  replace hN := hN.ext ho8
  refine sd0 (d_stN hb9 rfl rfl sz26 rfl rfl ?_)
  intro w11 hs13 ho12 hb9'
  clear hb9; have hb9 := hb9'; clear hb9'
  have hz14 := ho12.size
  replace hL0 := hL0.out ho12 (by first | omega | (simp only [blk_some, hi1_some] at *; omega))
  replace hL1 := hL1.out ho12 (by first | omega | (simp only [blk_some, hi1_some] at *; omega))
  replace hE := hE.step ho12 (by first | omega | (simp only [blk_some, hi1_some] at *; omega))
  replace hN := hN.out ho12 (by first | omega | (simp only [blk_some, hi1_some] at *; omega))
  refine rg_end ?_
  refine n_then ?_
  refine wp_seq ?_
  refine rg ?_
  refine st (y_lbN hb9 agg26 rfl) ?_
  refine sc cl13 (ref11_TreeF_ok N A _ _ _ hN hok) rfl ?_
  rintro v19 w15 ⟨ar1, cr1, tree1, rfl, hTr1, hfo1, htl1, hcap1, ho16⟩
  have hz20 := ho16.size
  replace hL0 := hL0.ext ho16
  replace hL1 := hL1.ext ho16
  replace hE := hE.step ho16 (.inl (Nat.le_refl _))
  replace hN := hN.ext ho16
  replace hb9 := hb9.ext ho16
  refine st (asS rfl) ?_
  refine rg_end ?_
  refine n_then ?_
  refine wp_seq ?_
  refine wp_seq ?_
  refine rg ?_
  refine st (mvS rfl) ?_
  refine st (y_len Try.underlying22 rfl) ?_
  refine st (y_eql rfl rfl) ?_
  refine rg_end ?_
  refine n_then ?_
  refine cnd rfl (fun hc0 => ?_) (fun hc0 => ?_)
  ·
    try simp only [decide_eq_true_eq, decide_eq_false_iff_not, Bool.not_eq_true', Bool.not_eq_false', Bool.and_eq_true, Bool.or_eq_true, Bool.or_eq_false_iff, Bool.cond_true_right, Bool.cond_false_right, Bool.cond_true_left, Bool.cond_false_left, ne_eq, Decidable.not_not, bne_iff_ne, beq_iff_eq, beq_eq_false_iff_ne, Bool.not_true, Bool.not_false] at hc0
    refine wp_seq ?_
    refine rg ?_
    refine sc cl14 (law16_awake_ok _) rfl ?_
    rintro v25 w21 ⟨rfl, ho22⟩
    have hz26 := ho22.size
    replace hL0 := hL0.ext ho22
    replace hL1 := hL1.ext ho22
    replace hE := hE.step ho22 (.inl (Nat.le_refl _))
    replace hN := hN.ext ho22
    replace hb9 := hb9.ext ho22
    replace hTr1 := hTr1.ext ho22
    refine st (asB rfl) ?_
    refine rg_end ?_
    refine n_then ?_
    refine wp_ret ?_
    refine r_then (ret1 (v := (.bool _)) Try.results5 rfl ?_)
    exact ⟨rfl, hE⟩
  ·
    try simp only [decide_eq_true_eq, decide_eq_false_iff_not, Bool.not_eq_true', Bool.not_eq_false', Bool.and_eq_true, Bool.or_eq_true, Bool.or_eq_false_iff, Bool.cond_true_right, Bool.cond_false_right, Bool.cond_true_left, Bool.cond_false_left, ne_eq, Decidable.not_not, bne_iff_ne, beq_iff_eq, beq_eq_false_iff_ne, Bool.not_true, Bool.not_false] at hc0
    have hm0 := hfo1.mem _ (el_mem (l := tree1) (i := 0) (by omega) (by omega))
    refine wp_skip ?_
    refine n_then ?_
    refine wp_seq ?_
    refine rgD 12 (fun w_ => Ext w15 w_) (fun i => Nat.beq i 4 || Nat.beq i 11) mixed (by kernel_rfl) ?_
    intro w27 ho28 hs29
    refine ⟨ho28, ?_⟩
    have hx30 := ho28
    refine tn rfl (fun _ hG => mvS rfl) ?_
    refine tn rfl (fun _ hG => mvI rfl) ?_
    refine tn rfl (fun _ hG => mvS rfl) ?_
    refine tn rfl (fun _ hG => y_len Try.underlying22 rfl) ?_
    refine tc rfl cl15 (keep_Pick_ok _ _ _ (by omega) (by omega)) rfl ?_
    rintro v35 w31 ⟨rfl, ho32⟩
    have hp1 := pick_rng out ((tree1.length : Nat) : Int) (by omega)
    have hx36 := hx30.step ho32 (.inl (Nat.le_refl _))
    have hz37 := ho32.size
    refine ⟨hx36, ?_⟩
    refine tn rfl (fun _ hG => y_ix (hTr1.ext hG) sl22 rfl (rfl) rfl (by omega) (by omega)) ?_
    refine tn rfl (fun _ hG => y_le (hTr1.ext hG) na3 rfl (by omega) (by omega) rfl) ?_
    refine tn rfl (fun _ hG => mvI rfl) ?_
    refine tn rfl (fun _ hG => y_fld fld26_2 rfl) ?_
    refine tn rfl (fun _ hG => y_lb (hb9.ext hG) na24 rfl rfl) ?_
    refine tn rfl (fun _ hG => y_len Try.underlying24 rfl) ?_
    refine tc rfl cl15 (keep_Pick_ok _ _ _ (by omega) (by omega)) rfl ?_
    rintro v42 w38 ⟨rfl, ho39⟩
    have hp2 := pick_rng into ((N.acts.length : Nat) : Int) (by omega)
    have hx43 := hx36.step ho39 (.inl (Nat.le_refl _))
    have hz44 := ho39.size
    refine ⟨hx43, ?_⟩
    refine t_end ?_
    have hz45 := hx43.size
    replace hL0 := hL0.ext hx43
    replace hL1 := hL1.ext hx43
    replace hE := hE.step hx43 (.inl (Nat.le_refl _))
    replace hN := hN.ext hx43
    replace hb9 := hb9.ext hx43
    replace hTr1 := hTr1.ext hx43
    refine st (asI rfl) ?_
    refine st (asI rfl) ?_
    refine rg_end ?_
    refine n_then ?_
    refine wp_seq ?_
    refine rgD 14 (fun w_ => Ext w38 w_) (fun i => Nat.beq i 4 || Nat.beq i 7) mixed (by kernel_rfl) ?_
    intro w46 ho47 hs48
    refine ⟨ho47, ?_⟩
    have hx49 := ho47
    refine tn rfl (fun _ hG => y_lbN (hb9.ext hG) agg26 rfl) ?_
    refine tn rfl (fun _ hG => mvS rfl) ?_
    refine tn rfl (fun _ hG => y_lbN (hb9.ext hG) agg26 rfl) ?_
    refine tn rfl (fun _ hG => mvS rfl) ?_
    refine tc rfl cl21 (keep_Times_ok N A _ _ _ _ _ _ _ _ (hN.ext hx49) (hL1.ext hx49) hl1 (by omega) (by omega)) rfl ?_
    rintro v54 w50 ⟨ax, cx, x, rfl, hX, hxl, hxr, ho51⟩
    have hg : GoodT N x := ⟨hok, hxl, hxr⟩
    have hft := wide_feas hwd hg
    have hx55 := hx49.step ho51 (.inl (Nat.le_refl _))
    have hz56 := ho51.size
    refine ⟨hx55, ?_⟩
    refine tn rfl (fun _ hG => mvI rfl) ?_
    refine tn rfl (fun _ hG => mvI rfl) ?_
    refine tc rfl cl17 (simplex_Move_ok N A _ _ tree1 _ _ _ _ x _ _ _ _ (el tree1 (pick out ((tree1.length : Nat) : Int))) (pick into ((N.acts.length : Nat) : Int)) _ (hN.ext hx55) (hTr1.ext hx55) (by first | omega | decide) hX) rfl ?_
    rintro v61 w57 ⟨af3, cf3, f3, ax3, cx3, T3, e3, rfl, hF3, hX3, hd3, hr3, ho58⟩
    have hx62 := hx55.step ho58 (.inl (Nat.le_refl _))
    have hz63 := ho58.size
    replace hX := hX.ext ho58
    refine ⟨hx62, ?_⟩
    refine tn rfl (fun _ hG => mvT rfl) ?_
    refine tn rfl (fun _ hG => y_ext rfl rfl) ?_
    refine tn rfl (fun _ hG => y_ext rfl rfl) ?_
    refine tn rfl (fun _ hG => y_ext rfl rfl) ?_
    refine tn rfl (fun _ hG => asS rfl) ?_
    refine tn rfl (fun _ hG => asS rfl) ?_
    refine t_end ?_
    have hz64 := hx62.size
    replace hL0 := hL0.ext hx62
    replace hL1 := hL1.ext hx62
    replace hE := hE.step hx62 (.inl (Nat.le_refl _))
    replace hN := hN.ext hx62
    replace hb9 := hb9.ext hx62
    replace hTr1 := hTr1.ext hx62
    refine st (asI rfl) ?_
    refine rg_end ?_
    refine n_then ?_
    refine wp_seq ?_
    refine wp_seq ?_
    refine rg ?_
    refine st (mvI rfl) ?_
    refine st (y_neq rfl rfl) ?_
    refine rg_end ?_
    refine n_then ?_
    refine cnd rfl (fun hc1 => ?_) (fun hc1 => ?_)
    ·
      try simp only [decide_eq_true_eq, decide_eq_false_iff_not, Bool.not_eq_true', Bool.not_eq_false', Bool.and_eq_true, Bool.or_eq_true, Bool.or_eq_false_iff, Bool.cond_true_right, Bool.cond_false_right, Bool.cond_true_left, Bool.cond_false_left, ne_eq, Decidable.not_not, bne_iff_ne, beq_iff_eq, beq_eq_false_iff_ne, Bool.not_true, Bool.not_false] at hc1
      have hnm : ¬ MvA N tree1 (el tree1 (pick out ((tree1.length : Nat) : Int))) (pick into ((N.acts.length : Nat) : Int)) := fun h => hc1 (hr3.d hfo1 hft h (wide_feas hwd (good_sh hg))).2.2
      obtain ⟨rfl, rfl, rfl⟩ := hr3.b hfo1 hft hnm
      refine wp_seq ?_
      refine rg ?_
      refine sc cl14 (law16_awake_ok _) rfl ?_
      rintro v69 w65 ⟨rfl, ho66⟩
      have hz70 := ho66.size
      replace hL0 := hL0.ext ho66
      replace hL1 := hL1.ext ho66
      replace hE := hE.step ho66 (.inl (Nat.le_refl _))
      replace hN := hN.ext ho66
      replace hb9 := hb9.ext ho66
      replace hTr1 := hTr1.ext ho66
      replace hX := hX.ext ho66
      replace hF3 := hF3.ext ho66
      replace hX3 := hX3.ext ho66
      refine st (mvB rfl) ?_
      refine stg rfl rfl rfl (mvI rfl) ?_
      refine stg rfl rfl rfl (y_eql rfl rfl) ?_
      refine st (y_pickT rfl rfl (v := .bool _) rfl) ?_
      refine st (mvB rfl) ?_
      refine stg rfl rfl (decide_eq_true rfl) (mvS rfl) ?_
      refine stg rfl rfl (decide_eq_true rfl) (y_len Try.underlying22 rfl) ?_
      refine stg rfl rfl (decide_eq_true rfl) (y_eql rfl rfl) ?_
      refine st (y_pickT rfl (decide_eq_true rfl) (v := .bool _) rfl) ?_
      refine st (mvB rfl) ?_
      refine stg rfl rfl (decide_eq_true rfl) (mvS rfl) ?_
      refine stg rfl rfl (decide_eq_true rfl) (y_len Try.underlying22 rfl) ?_
      refine stg rfl rfl (decide_eq_true rfl) (y_eql rfl rfl) ?_
      refine st (y_pickT rfl (decide_eq_true rfl) (v := .bool _) rfl) ?_
      refine st (asB rfl) ?_
      refine rg_end ?_
      refine n_then ?_
      refine wp_ret ?_
      refine r_then (ret1 (v := (.bool _)) Try.results5 rfl ?_)
      exact ⟨congrArg Value.bool (decide_eq_true rfl), hE⟩
    ·
      try simp only [decide_eq_true_eq, decide_eq_false_iff_not, Bool.not_eq_true', Bool.not_eq_false', Bool.and_eq_true, Bool.or_eq_true, Bool.or_eq_false_iff, Bool.cond_true_right, Bool.cond_false_right, Bool.cond_true_left, Bool.cond_false_left, ne_eq, Decidable.not_not, bne_iff_ne, beq_iff_eq, beq_eq_false_iff_ne, Bool.not_true, Bool.not_false] at hc1
      have hmf : feas N (moveT N tree1 x (el tree1 (pick out ((tree1.length : Nat) : Int))) (pick into ((N.acts.length : Nat) : Int))) = true := wide_feas hwd (good_sh hg)
      have hma : MvA N tree1 (el tree1 (pick out ((tree1.length : Nat) : Int))) (pick into ((N.acts.length : Nat) : Int)) := by
        apply Classical.byContradiction
        intro h
        have := (hr3.b hfo1 hft h).2.2
        omega
      obtain ⟨rfl, rfl, rfl⟩ := hr3.d hfo1 hft hma hmf
      have hlm := hr3.len
      refine wp_skip ?_
      refine n_then ?_
      refine wp_seq ?_
      refine rgD 22 (fun w_ => Ext w57 w_) (fun i => Nat.beq i 0 || Nat.beq i 4 || Nat.beq i 9 || Nat.beq i 15) mixed (by kernel_rfl) ?_
      intro w71 ho72 hs73
      refine ⟨ho72, ?_⟩
      have hx74 := ho72
      refine tc rfl cl14 (law16_awake_ok _) rfl ?_
      rintro v79 w75 ⟨rfl, ho76⟩
      have hx80 := hx74.step ho76 (.inl (Nat.le_refl _))
      have hz81 := ho76.size
      refine ⟨hx80, ?_⟩
      refine tn rfl (fun _ hG => mvB rfl) ?_
      refine tng rfl rfl rfl rfl (fun _ hG => y_lbN (hb9.ext hG) agg26 rfl) ?_
      refine tng rfl rfl rfl rfl (fun _ hG => mvS rfl) ?_
      refine tcg rfl rfl rfl rfl cl22 (ref11_Forest_ok N A _ _ (moveF N tree1 (el tree1 (pick out ((tree1.length : Nat) : Int))) (pick into ((N.acts.length : Nat) : Int))) _ _ _ _ _ (hN.ext hx80) (Ow.sl (hF3.ext hx80)) (by omega)) rfl ?_
      rintro v86 w82 ⟨bf, rfl, hbf, ho83⟩
      have hbt : bf = true := hbf.2 (fo_mvF hma hfo1)
      have hx87 := hx80.step ho83 (.inl (Nat.le_refl _))
      have hz88 := ho83.size
      refine ⟨hx87, ?_⟩
      refine tn rfl (fun _ hG => y_pickT rfl rfl (v := .bool _) rfl) ?_
      refine tn rfl (fun _ hG => mvB rfl) ?_
      refine tng rfl rfl rfl hbt (fun _ hG => y_lbN (hb9.ext hG) agg26 rfl) ?_
      refine tng rfl rfl rfl hbt (fun _ hG => mvS rfl) ?_
      refine tcg rfl rfl rfl hbt cl23 (ref11_Feasible_ok N A _ _ (moveT N tree1 x (el tree1 (pick out ((tree1.length : Nat) : Int))) (pick into ((N.acts.length : Nat) : Int))) _ _ _ _ _ (hN.ext hx87) (Ow.sl (hX3.ext hx87))) rfl ?_
      rintro v93 w89 ⟨rfl, ho90⟩
      have hx94 := hx87.step ho90 (.inl (Nat.le_refl _))
      have hz95 := ho90.size
      refine ⟨hx94, ?_⟩
      refine tn rfl (fun _ hG => y_pickT rfl hbt (v := .bool _) rfl) ?_
      refine tn rfl (fun _ hG => mvB rfl) ?_
      refine tng rfl rfl rfl hmf (fun _ hG => y_lbN (hb9.ext hG) agg26 rfl) ?_
      refine tng rfl rfl rfl hmf (fun _ hG => mvS rfl) ?_
      refine tng rfl rfl rfl hmf (fun _ hG => mvI rfl) ?_
      refine tcg rfl rfl rfl hmf cl24 (ref11_Duration_ok N A _ _ (moveT N tree1 x (el tree1 (pick out ((tree1.length : Nat) : Int))) (pick into ((N.acts.length : Nat) : Int))) _ _ _ _ (pick into ((N.acts.length : Nat) : Int)) _ (hN.ext hx94) (Ow.sl (hX3.ext hx94))) rfl ?_
      rintro v100 w96 ⟨d, rfl, hd, ho97⟩
      rw [if_pos ⟨goodT_iff.2 (feas_iff.1 hmf).1, hp2.1, hp2.2⟩] at hd
      have hd2 : d = (el N.acts (pick into ((N.acts.length : Nat) : Int))).mn := by rw [hd, dur_slk, mv_tight hma hg]; omega
      have hx101 := hx94.step ho97 (.inl (Nat.le_refl _))
      have hz102 := ho97.size
      refine ⟨hx101, ?_⟩
      refine tng rfl rfl rfl hmf (fun _ hG => y_fld fld26_2 rfl) ?_
      refine tng rfl rfl rfl hmf (fun _ hG => y_lb (hb9.ext hG) na24 rfl rfl) ?_
      refine tng rfl rfl rfl hmf (fun _ hG => mvI rfl) ?_
      refine tng rfl rfl rfl hmf (fun _ hG => y_ix (hN.a.ext hG) sl24 rfl (rfl) rfl (by omega) (by omega)) ?_
      refine tng rfl rfl rfl hmf (fun _ hG => y_fld fld36_3 rfl) ?_
      refine tng rfl rfl rfl hmf (fun _ hG => y_lf (hN.a.ext hG) na3 rfl (by omega) (by omega) rfl) ?_
      refine t_end ?_
      have hz103 := hx101.size
      replace hL0 := hL0.ext hx101
      replace hL1 := hL1.ext hx101
      replace hE := hE.step hx101 (.inl (Nat.le_refl _))
      replace hN := hN.ext hx101
      replace hb9 := hb9.ext hx101
      replace hTr1 := hTr1.ext hx101
      replace hX := hX.ext hx101
      replace hF3 := hF3.ext hx101
      replace hX3 := hX3.ext hx101
      refine stg rfl rfl hmf (y_eql rfl rfl) ?_
      refine st (y_pickT rfl hmf (v := .bool _) rfl) ?_
      refine st (asB rfl) ?_
      refine rg_end ?_
      refine n_then ?_
      refine wp_ret ?_
      refine ret1 (v := (.bool _)) Try.results5 rfl ?_
      exact ⟨congrArg Value.bool (decide_eq_true hd2), hE⟩

set_option maxHeartbeats 1000000 in
set_option maxRecDepth 100000 in
theorem law16_SimplexImproves_ok (a0 : Option Addr) (c0 : Nat) (l0 : List Int) (a1 : Option Addr) (c1 : Nat) (l1 : List Int) (B : Int) (w : World) (hL0 : Ints 0 w.heap.size w a0 l0) (hl0 : (l0.length : Int) ≤ 9223372036854775807) (hL1 : Ints 0 w.heap.size w a1 l1) (hl1 : (l1.length : Int) ≤ 9223372036854775807)  : Cal Try.prog 6 [.slice a0 l0.length c0, .slice a1 l1.length c1, .int .i64 B] w (fun v w' => v = .bool true ∧ Ext w w') := by
  have hE : Out 0 0 w w := Out.refl _ _ w
  refine enter Try.func6 rfl Try.ntmps6 rfl ?_
  refine wp_seq ?_
  refine rg ?_
  refine st (asB rfl) ?_
  refine rg_end ?_
  refine n_then ?_
  refine wp_seq ?_
  refine rg ?_
  refine st (mvS rfl) ?_
  refine sc cl20 (law16_wide_ok _ _ _ _ hL0 hl0) rfl ?_
  rintro v5 w1 ⟨N, A, rfl, hsm, hwd, hN, ho2⟩
  have hok := hsm.1
  have hac := hok.ac
  have hev := hok.ev
  have hp2 := hok.p2
  have hp7 := hok.p7
  have hz6 := ho2.size
  replace hL0 := hL0.ext ho2
  replace hL1 := hL1.ext ho2
  replace hE := hE.step ho2 (.inl (Nat.le_refl _))
  refine sd (d_allocA zer26 ?_)
  intro b7 w7 hbb7 hs9 ho8 hb7
  have hz10 := ho8.size
  replace hL0 := hL0.ext ho8
  replace hL1 := hL1.ext ho8
  replace hE := hE.step ho8 (.inl (Nat.le_refl _))
  replace hN := hN.ext ho8
  refine sd0 (d_stN hb7 rfl rfl sz26 rfl rfl ?_)
  intro w11 hs13 ho12 hb7'
  clear hb7; have hb7 := hb7'; clear hb7'
  have hz14 := ho12.size
  replace hL0 := hL0.out ho12 (by first | omega | (simp only [blk_some, hi1_some] at *; omega))
  replace hL1 := hL1.out ho12 (by first | omega | (simp only [blk_some, hi1_some] at *; omega))
  replace hE := hE.step ho12 (by first | omega | (simp only [blk_some, hi1_some] at *; omega))
  replace hN := hN.out ho12 (by first | omega | (simp only [blk_some, hi1_some] at *; omega))
  refine rg_end ?_
  refine n_then ?_
  refine wp_seq ?_
  refine rg ?_
  refine st (y_lbN hb7 agg26 rfl) ?_
  refine st (mvS rfl) ?_
  refine sc cl21 (keep_Times_ok N A _ _ _ _ _ _ _ _ hN hL1 hl1 (by omega) (by omega)) rfl ?_
  rintro v19 w15 ⟨ax, cx, x, rfl, hX, hxl, hxr, ho16⟩
  have hg : GoodT N x := ⟨hok, hxl, hxr⟩
  have hft := wide_feas hwd hg
  have hz20 := ho16.size
  replace hL0 := hL0.ext ho16
  replace hL1 := hL1.ext ho16
  replace hE := hE.step ho16 (.inl (Nat.le_refl _))
  replace hN := hN.ext ho16
  replace hb7 := hb7.ext ho16
  refine st (asS rfl) ?_
  refine rg_end ?_
  refine n_then ?_
  refine wp_seq ?_
  refine rgD 15 (fun w_ => Ext w15 w_) (fun i => Nat.beq i 2 || Nat.beq i 5 || Nat.beq i 6) mixed (by kernel_rfl) ?_
  intro w21 ho22 hs23
  refine ⟨ho22, ?_⟩
  have hx24 := ho22
  refine tn rfl (fun _ hG => y_lbN (hb7.ext hG) agg26 rfl) ?_
  refine tn rfl (fun _ hG => y_lbN (hb7.ext hG) agg26 rfl) ?_
  refine tc rfl cl13 (ref11_TreeF_ok N A _ _ _ (hN.ext hx24) hok) rfl ?_
  rintro v29 w25 ⟨ar1, cr1, tree1, rfl, hTr1, hfo1, htl1, hcap1, ho26⟩
  have hx30 := hx24.step ho26 (.inl (Nat.le_refl _))
  have hz31 := ho26.size
  refine ⟨hx30, ?_⟩
  refine tn rfl (fun _ hG => mvS rfl) ?_
  refine tn rfl (fun _ hG => mvI rfl) ?_
  refine tc rfl cl15 (keep_Pick_ok _ _ _ (by omega) (by omega)) rfl ?_
  rintro v36 w32 ⟨rfl, ho33⟩
  have hp1 := pick_rng B 30 (by omega)
  have hx37 := hx30.step ho33 (.inl (Nat.le_refl _))
  have hz38 := ho33.size
  replace hTr1 := hTr1.ext ho33
  refine ⟨hx37, ?_⟩
  refine tc rfl cl25 (simplex_Solve_ok N A _ _ tree1 _ _ _ _ x _ _ _ _ (pick B 30) _ (hN.ext hx37) hTr1 (by omega) (hX.ext hx37)) rfl ?_
  rintro v43 w39 ⟨af1, cf1, f1, ax1, cx1, T1, m1, e1, rfl, hF1, hX1, hdj1, hr1, ho40⟩
  have hlm := hr1.len
  obtain ⟨rfl, rfl, rfl, rfl⟩ := hr1.c hfo1 hft (by omega)
  obtain ⟨q1, q2, q3, q4, q5⟩ := smF_ok (pick B 30).toNat tree1 x hfo1 hft
  have hx44 := hx37.step ho40 (.inl (Nat.le_refl _))
  have hz45 := ho40.size
  replace hTr1 := hTr1.ext ho40
  refine ⟨hx44, ?_⟩
  refine tn rfl (fun _ hG => mvT rfl) ?_
  refine tn rfl (fun _ hG => y_ext rfl rfl) ?_
  refine tn rfl (fun _ hG => y_ext rfl rfl) ?_
  refine tn rfl (fun _ hG => y_ext rfl rfl) ?_
  refine tn rfl (fun _ hG => y_ext rfl rfl) ?_
  refine tn rfl (fun _ hG => asS rfl) ?_
  refine tn rfl (fun _ hG => asS rfl) ?_
  refine tn rfl (fun _ hG => asI rfl) ?_
  refine t_end ?_
  have hz46 := hx44.size
  replace hL0 := hL0.ext hx44
  replace hL1 := hL1.ext hx44
  replace hE := hE.step hx44 (.inl (Nat.le_refl _))
  replace hN := hN.ext hx44
  replace hb7 := hb7.ext hx44
  replace hX := hX.ext hx44
  refine st (asI rfl) ?_
  refine rg_end ?_
  refine n_then ?_
  refine wp_seq ?_
  refine wp_seq ?_
  refine rg ?_
  refine st (mvI rfl) ?_
  refine st (y_neq rfl rfl) ?_
  refine st (mvB rfl) ?_
  refine stg rfl rfl (decide_eq_false (not_not_intro rfl)) (y_lbN hb7 agg26 rfl) ?_
  refine stg rfl rfl (decide_eq_false (not_not_intro rfl)) (mvS rfl) ?_
  refine scg rfl rfl (decide_eq_false (not_not_intro rfl)) cl22 (ref11_Forest_ok N A _ _ (smF N (pick B 30).toNat tree1 x).1 _ _ _ _ _ hN (Ow.sl hF1) (by omega)) rfl ?_
  rintro v51 w47 ⟨bf, rfl, hbf, ho48⟩
  have hbt : bf = true := hbf.2 q1
  have hz52 := ho48.size
  replace hL0 := hL0.ext ho48
  replace hL1 := hL1.ext ho48
  replace hE := hE.step ho48 (.inl (Nat.le_refl _))
  replace hN := hN.ext ho48
  replace hb7 := hb7.ext ho48
  replace hX := hX.ext ho48
  replace hTr1 := hTr1.ext ho48
  replace hF1 := hF1.ext ho48
  replace hX1 := hX1.ext ho48
  refine stg rfl rfl (decide_eq_false (not_not_intro rfl)) (y_not rfl) ?_
  refine st (y_pickF rfl (decide_eq_false (not_not_intro rfl)) (v := .bool _) rfl) ?_
  refine st (mvB rfl) ?_
  refine stg rfl rfl (congrArg Bool.not hbt) (y_lbN hb7 agg26 rfl) ?_
  refine stg rfl rfl (congrArg Bool.not hbt) (mvS rfl) ?_
  refine scg rfl rfl (congrArg Bool.not hbt) cl23 (ref11_Feasible_ok N A _ _ (smF N (pick B 30).toNat tree1 x).2.1 _ _ _ _ _ hN (Ow.sl hX1)) rfl ?_
  rintro v57 w53 ⟨rfl, ho54⟩
  have hz58 := ho54.size
  replace hL0 := hL0.ext ho54
  replace hL1 := hL1.ext ho54
  replace hE := hE.step ho54 (.inl (Nat.le_refl _))
  replace hN := hN.ext ho54
  replace hb7 := hb7.ext ho54
  replace hX := hX.ext ho54
  replace hTr1 := hTr1.ext ho54
  replace hF1 := hF1.ext ho54
  replace hX1 := hX1.ext ho54
  refine stg rfl rfl (congrArg Bool.not hbt) (y_not rfl) ?_
  refine st (y_pickF rfl (congrArg Bool.not hbt) (v := .bool _) rfl) ?_
  refine rg_end ?_
  refine n_then ?_
  refine cnd rfl (fun hc0 => absurd ((congrArg Bool.not q2).symm.trans hc0) (by decide)) (fun hc0 => ?_)
  refine wp_skip ?_
  refine n_then ?_
  refine wp_seq ?_
  refine rg ?_
  refine st (y_lbN hb7 agg26 rfl) ?_
  refine st (mvS rfl) ?_
  refine sc cl26 (ref11_Cost_ok N A _ _ x _ _ _ _ _ hN hX) rfl ?_
  rintro v63 w59 ⟨ca, eca, rfl, gca, bca, ho60⟩
  have hca : ca = costD N x := (gca (goodT_iff.2 hg)).1
  have hz64 := ho60.size
  replace hL0 := hL0.ext ho60
  replace hL1 := hL1.ext ho60
  replace hE := hE.step ho60 (.inl (Nat.le_refl _))
  replace hN := hN.ext ho60
  replace hb7 := hb7.ext ho60
  replace hX := hX.ext ho60
  replace hTr1 := hTr1.ext ho60
  replace hF1 := hF1.ext ho60
  replace hX1 := hX1.ext ho60
  refine st (mvT rfl) ?_
  refine st (y_ext rfl rfl) ?_
  refine st (y_ext rfl rfl) ?_
  refine st (asI rfl) ?_
  refine st (asI rfl) ?_
  refine rg_end ?_
  refine n_then ?_
  refine wp_seq ?_
  refine rg ?_
  refine st (y_lbN hb7 agg26 rfl) ?_
  refine st (mvS rfl) ?_
  refine sc cl26 (ref11_Cost_ok N A _ _ (smF N (pick B 30).toNat tree1 x).2.1 _ _ _ _ _ hN (Ow.sl hX1)) rfl ?_
  rintro v69 w65 ⟨cb, ecb, rfl, gcb, bcb, ho66⟩
  have hcb : cb = costD N (smF N (pick B 30).toNat tree1 x).2.1 := (gcb (goodT_iff.2 (feas_iff.1 q2).1)).1
  have hle : cb ≤ ca ∧ ((((smF N (pick B 30).toNat tree1 x).2.2 : Nat) : Int) = 0 ↔ ca = cb) := by
    rcases Nat.eq_zero_or_pos (smF N (pick B 30).toNat tree1 x).2.2 with z | z
    · rw [hca, hcb, q4 z, z]; simp
    · have := q5 z; omega
  have hz70 := ho66.size
  replace hL0 := hL0.ext ho66
  replace hL1 := hL1.ext ho66
  replace hE := hE.step ho66 (.inl (Nat.le_refl _))
  replace hN := hN.ext ho66
  replace hb7 := hb7.ext ho66
  replace hX := hX.ext ho66
  replace hTr1 := hTr1.ext ho66
  replace hF1 := hF1.ext ho66
  replace hX1 := hX1.ext ho66
  refine st (mvT rfl) ?_
  refine st (y_ext rfl rfl) ?_
  refine st (y_ext rfl rfl) ?_
  refine st (asI rfl) ?_
  refine st (asI rfl) ?_
  refine rg_end ?_
  refine n_then ?_
  refine wp_seq ?_
  refine rg ?_
  refine sc cl14 (law16_awake_ok _) rfl ?_
  rintro v75 w71 ⟨rfl, ho72⟩
  have hz76 := ho72.size
  replace hL0 := hL0.ext ho72
  replace hL1 := hL1.ext ho72
  replace hE := hE.step ho72 (.inl (Nat.le_refl _))
  replace hN := hN.ext ho72
  replace hb7 := hb7.ext ho72
  replace hX := hX.ext ho72
  replace hTr1 := hTr1.ext ho72
  replace hF1 := hF1.ext ho72
  replace hX1 := hX1.ext ho72
  refine st (mvB rfl) ?_
  refine stg rfl rfl rfl (mvI rfl) ?_
  refine stg rfl rfl rfl (y_geq rfl rfl) ?_
  refine st (y_pickT rfl rfl (v := .bool _) rfl) ?_
  refine st (mvB rfl) ?_
  refine stg rfl rfl (decide_eq_true (by omega)) (mvI rfl) ?_
  refine stg rfl rfl (decide_eq_true (by omega)) (mvI rfl) ?_
  refine scg rfl rfl (decide_eq_true (by omega)) cl15 (keep_Pick_ok _ _ _ (by omega) (by omega)) rfl ?_
  rintro v81 w77 ⟨rfl, ho78⟩
  have hp2 := pick_rng B 30 (by omega)
  have hz82 := ho78.size
  replace hL0 := hL0.ext ho78
  replace hL1 := hL1.ext ho78
  replace hE := hE.step ho78 (.inl (Nat.le_refl _))
  replace hN := hN.ext ho78
  replace hb7 := hb7.ext ho78
  replace hX := hX.ext ho78
  replace hTr1 := hTr1.ext ho78
  replace hF1 := hF1.ext ho78
  replace hX1 := hX1.ext ho78
  refine stg rfl rfl (decide_eq_true (by omega)) (y_leq rfl rfl) ?_
  refine st (y_pickT rfl (decide_eq_true (by omega)) (v := .bool _) rfl) ?_
  refine st (mvB rfl) ?_
  refine stg rfl rfl (decide_eq_true (by omega)) (mvI rfl) ?_
  refine stg rfl rfl (decide_eq_true (by omega)) (y_eql rfl rfl) ?_
  refine stg rfl rfl (decide_eq_true (by omega)) (mvI rfl) ?_
  refine stg rfl rfl (decide_eq_true (by omega)) (mvI rfl) ?_
  refine stg rfl rfl (decide_eq_true (by omega)) (y_eql rfl rfl) ?_
  refine stg rfl rfl (decide_eq_true (by omega)) (y_eqlB rfl rfl Try.underlying4) ?_
  refine st (y_pickT rfl (decide_eq_true (by omega)) (v := .bool _) rfl) ?_
  refine st (mvB rfl) ?_
  refine stg rfl rfl (beq_iff_eq.2 (decide_eq_decide.2 hle.2)) (mvI rfl) ?_
  refine stg rfl rfl (beq_iff_eq.2 (decide_eq_decide.2 hle.2)) (mvI rfl) ?_
  refine stg rfl rfl (beq_iff_eq.2 (decide_eq_decide.2 hle.2)) (y_leq rfl rfl) ?_
  refine st (y_pickT rfl (beq_iff_eq.2 (decide_eq_decide.2 hle.2)) (v := .bool _) rfl) ?_
  refine st (asB rfl) ?_
  refine rg_end ?_
  refine n_then ?_
  refine wp_ret ?_
  refine ret1 (v := (.bool _)) Try.results6 rfl ?_
  exact ⟨congrArg Value.bool (decide_eq_true hle.1), hE⟩
end Go.Proofs.Ytgekfafangcggaa
