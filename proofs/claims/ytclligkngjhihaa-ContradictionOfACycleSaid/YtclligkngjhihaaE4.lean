/-
  Walks of the functions, printed by a program out of the code and the loops' relations.
-/
import Derived.Test.YtclligkngjhihaaWkD
import Derived.Test.YtclligkngjhihaaProg
import Derived.KernelRfl
import Derived.Test.YtclligkngjhihaaE3
namespace Go.Proofs.Ytclligkngjhihaa
open Go.Wk Go.RowKit
set_option linter.unusedVariables false
set_option linter.unusedSimpArgs false
theorem cl59 : Callable Try.prog 59 := ⟨Try.call59⟩
theorem cl83 : Callable Try.prog 83 := ⟨Try.call83⟩
theorem cl87 : Callable Try.prog 87 := ⟨Try.call87⟩
theorem fld116_10 : FieldOf Try.prog 116 10 12 := fun b o w => by simp [Instr.fieldAt, fieldPlace, Instr.sureAddr, Addr.add_lit]
theorem fld116_4 : FieldOf Try.prog 116 4 6 := fun b o w => by simp [Instr.fieldAt, fieldPlace, Instr.sureAddr, Addr.add_lit]
theorem fld116_5 : FieldOf Try.prog 116 5 7 := fun b o w => by simp [Instr.fieldAt, fieldPlace, Instr.sureAddr, Addr.add_lit]
theorem fld116_6 : FieldOf Try.prog 116 6 8 := fun b o w => by simp [Instr.fieldAt, fieldPlace, Instr.sureAddr, Addr.add_lit]
theorem fld116_7 : FieldOf Try.prog 116 7 9 := fun b o w => by simp [Instr.fieldAt, fieldPlace, Instr.sureAddr, Addr.add_lit]
theorem fld116_8 : FieldOf Try.prog 116 8 10 := fun b o w => by simp [Instr.fieldAt, fieldPlace, Instr.sureAddr, Addr.add_lit]
theorem fld116_9 : FieldOf Try.prog 116 9 11 := fun b o w => by simp [Instr.fieldAt, fieldPlace, Instr.sureAddr, Addr.add_lit]
theorem na4 : NotAgg Try.prog 4 := Try.isAgg4
theorem sz4 : SzOf Try.prog 4 1 := Try.sizeOf4

set_option maxHeartbeats 1000000 in
set_option maxRecDepth 100000 in
theorem search_extend0_ok (N : Net) (A : NetA) (lo0 hi0 bs bt hi : Nat) (all : Bool) (B : Int) (s : Sr) (c0 : Int) (w : World) (hN : NetIn lo0 hi0 w N A) (hM : SMem bs bt hi w N A all B s) (hok : NetOk N) (h00 : hi0 ≤ bs) (hc : c0 = costTo N s.t (N.evs.length : Int)) : Cal Try.prog 83 [.pointer (some ⟨bs, 0, none⟩), .int .i64 (N.evs.length : Int), .int .i64 c0] w (fun v w' => v = .bool all ∧ SMem bs bt hi w' N A all B (leafS N N.evs.length s) ∧ Out bs (bt + 1) w w') := by
 obtain ⟨al, cl, ac, cc, ar, cr, L, rows, hbs, hL, hlim, hH, hRl, hrs, hcls, hT, hsi, hres, hb1, hb2, hb3⟩ := hM.ex
 have htl := hsi.1.1
 have hu0 := hsi.2.1
 have hu1 := hsi.2.2.1
 have hu2 := hsi.2.2.2
 have hbl := hbs.lt
 have hTr := hT.rng
 have hne := hok.ev
 have hna := hok.ac
 have hp2 := hok.p2
 have hp7 := hok.p7
 have hE : Out bs (bt + 1) w w := Out.refl _ _ w
 refine enter Try.func83 rfl Try.ntmps83 rfl ?_
 refine wp_seq ?_
 refine rg ?_
 refine st (asB rfl) ?_
 refine rg_end ?_
 refine n_then ?_
 refine wp_seq ?_
 refine wp_seq ?_
 refine rg ?_
 refine st (mvI rfl) ?_
 refine st (mvP rfl) ?_
 refine st (y_nil rfl) ?_
 refine st (y_fld fld116_3 rfl) ?_
 refine st (y_lb hbs na22 rfl rfl) ?_
 refine st (y_len Try.underlying22 rfl) ?_
 refine st (y_eql rfl rfl) ?_
 refine rg_end ?_
 refine n_then ?_
 refine cnd rfl (fun hc0 => ?_) (fun hc0 => ?_)
 ·
  try simp only [nm] at hc0
  refine wp_seq ?_
  refine rg ?_
  refine st (mvP rfl) ?_
  refine st (mvP rfl) ?_
  refine st (mvP rfl) ?_
  refine st (mvP rfl) ?_
  refine st (y_nil rfl) ?_
  refine st (y_fld fld116_3 rfl) ?_
  refine st (y_lb hbs na22 rfl rfl) ?_
  refine sc cl59 (clone_I_ok _ _ s.t _ _ _ (Ow.sl hT) (by omega)) rfl ?_
  rintro v5 w1 ⟨ar1, cr1, rfl, hcl, ho2⟩
  obtain ⟨zz, hzz⟩ : ∃ z, z = hi := ⟨_, rfl⟩
  have hclr := hcl.rng
  have hz6 := ho2.size
  replace hbs := hbs.ext ho2
  replace hL := hL.ext ho2
  replace hH := hH.ext ho2
  replace hrs := hrs.ext ho2
  replace hT := hT.ext ho2
  replace hres := hres.ext ho2
  replace hN := hN.ext ho2
  replace hE := hE.step ho2 (.inl (Nat.le_refl _))
  refine st (mvI rfl) ?_
  refine st (y_nil rfl) ?_
  refine st (y_fld fld116_8 rfl) ?_
  refine sd0 (d_st hbs sz22 rfl rfl rfl (Nat.le_of_ble_eq_true rfl) ?_)
  intro w7 hs9 ho8 hbs'
  clear hbs; have hbs := hbs'; clear hbs'
  have hz10 := ho8.size
  replace hL := hL.out ho8 (by first | omega | (simp only [blk_some, hi1_some] at *; omega))
  replace hH := hH.out ho8 (by first | omega | (simp only [blk_some, hi1_some] at *; omega))
  replace hrs := hrs.out ho8 (by first | omega | (simp only [blk_some, hi1_some] at *; omega))
  have hrnhT := hT.rng
  replace hT := hT.out ho8 (by first | omega | (simp only [blk_some, hi1_some] at *; omega))
  replace hres := hres.out ho8 (by first | omega | (simp only [blk_some, hi1_some] at *; omega))
  replace hN := hN.out ho8 (by first | omega | (simp only [blk_some, hi1_some] at *; omega))
  replace hE := hE.step ho8 (by first | omega | (simp only [blk_some, hi1_some] at *; omega))
  have hrnhcl := hcl.rng
  replace hcl := hcl.out ho8 (by first | omega | (simp only [blk_some, hi1_some] at *; omega))
  refine st (y_nil rfl) ?_
  refine st (y_fld fld116_9 rfl) ?_
  refine sd0 (d_st hbs sz3 rfl rfl rfl (Nat.le_of_ble_eq_true rfl) ?_)
  intro w11 hs13 ho12 hbs'
  clear hbs; have hbs := hbs'; clear hbs'
  have hz14 := ho12.size
  replace hL := hL.out ho12 (by first | omega | (simp only [blk_some, hi1_some] at *; omega))
  replace hH := hH.out ho12 (by first | omega | (simp only [blk_some, hi1_some] at *; omega))
  replace hrs := hrs.out ho12 (by first | omega | (simp only [blk_some, hi1_some] at *; omega))
  replace hT := hT.out ho12 (by first | omega | (simp only [blk_some, hi1_some] at *; omega))
  replace hres := hres.out ho12 (by first | omega | (simp only [blk_some, hi1_some] at *; omega))
  replace hN := hN.out ho12 (by first | omega | (simp only [blk_some, hi1_some] at *; omega))
  replace hE := hE.step ho12 (by first | omega | (simp only [blk_some, hi1_some] at *; omega))
  replace hcl := hcl.out ho12 (by first | omega | (simp only [blk_some, hi1_some] at *; omega))
  refine st (y_nil rfl) ?_
  refine st (y_fld fld116_10 rfl) ?_
  refine sd0 (d_st hbs sz4 rfl rfl rfl (Nat.le_of_ble_eq_true rfl) ?_)
  intro w15 hs17 ho16 hbs'
  clear hbs; have hbs := hbs'; clear hbs'
  have hz18 := ho16.size
  replace hL := hL.out ho16 (by first | omega | (simp only [blk_some, hi1_some] at *; omega))
  replace hH := hH.out ho16 (by first | omega | (simp only [blk_some, hi1_some] at *; omega))
  replace hrs := hrs.out ho16 (by first | omega | (simp only [blk_some, hi1_some] at *; omega))
  replace hT := hT.out ho16 (by first | omega | (simp only [blk_some, hi1_some] at *; omega))
  replace hres := hres.out ho16 (by first | omega | (simp only [blk_some, hi1_some] at *; omega))
  replace hN := hN.out ho16 (by first | omega | (simp only [blk_some, hi1_some] at *; omega))
  replace hE := hE.step ho16 (by first | omega | (simp only [blk_some, hi1_some] at *; omega))
  replace hcl := hcl.out ho16 (by first | omega | (simp only [blk_some, hi1_some] at *; omega))
  refine rg_end ?_
  refine n_then ?_
  refine wp_seq ?_
  refine rg ?_
  refine st (mvP rfl) ?_
  refine st (y_nil rfl) ?_
  refine st (y_fld fld116_4 rfl) ?_
  refine st (y_lb hbs na4 rfl rfl) ?_
  refine st (asB rfl) ?_
  refine rg_end ?_
  refine n_then ?_
  refine wp_ret ?_
  refine r_then (ret1 (v := (.bool _)) Try.results83 rfl ?_)
  subst hc
  exact ⟨rfl, ⟨al, cl, ac, cc, ar1, cr1, L, rows, hbs, hL, hlim, hH, hRl, hrs, hcls, hT, hsi, Sl.wide hcl.sl (by omega) (by omega), hb1, hb2, by omega⟩, hE⟩
 ·
  try simp only [nm] at hc0
  exfalso; omega

set_option maxHeartbeats 2000000 in
set_option maxRecDepth 100000 in
theorem search_extendS_ok (N : Net) (A : NetA) (lo0 hi0 bs bt hi : Nat) (all : Bool) (B : Int) (m i : Nat) (s0 : Sr) (c0 : Int) (w : World) (hN : NetIn lo0 hi0 w N A) (hM : SMem bs bt hi w N A all B s0) (hok : NetOk N) (h00 : hi0 ≤ bs) (him : i + (m + 1) = N.evs.length) (hc : c0 = costTo N s0.t i) (ih : ∀ (s : Sr) (c : Int) (w : World), NetIn lo0 hi0 w N A → SMem bs bt hi w N A all B s → c = costTo N s.t ((i : Int) + 1) → Cal Try.prog 83 [.pointer (some ⟨bs, 0, none⟩), .int .i64 ((i : Int) + 1), .int .i64 c] w (fun v w' => v = .bool (srch N all B m (i + 1) s).1 ∧ SMem bs bt hi w' N A all B (srch N all B m (i + 1) s).2 ∧ Out bs (bt + 1) w w'))  : Cal Try.prog 83 [.pointer (some ⟨bs, 0, none⟩), .int .i64 (i : Int), .int .i64 c0] w (fun v w' => v = .bool (srch N all B (m + 1) i s0).1 ∧ SMem bs bt hi w' N A all B (srch N all B (m + 1) i s0).2 ∧ Out bs (bt + 1) w w') := by
 obtain ⟨al, cl, ac, cc, ar, cr, L, rows, hbs, hL, hlim, hH, hRl, hrs, hcls, hT, hsi, hres, hb1, hb2, hb3⟩ := hM.ex
 have htl := hsi.1.1
 have hu0 := hsi.2.1
 have hu1 := hsi.2.2.1
 have hu2 := hsi.2.2.2
 have hbl := hbs.lt
 have hTr := hT.rng
 have hne := hok.ev
 have hna := hok.ac
 have hp2 := hok.p2
 have hp7 := hok.p7
 have hli := hlim.2 i (by omega)
 have hLl := hlim.1
 have hlr := limI_rng (i := i) hok
 have hE : Out bs (bt + 1) w w := Out.refl _ _ w
 refine enter Try.func83 rfl Try.ntmps83 rfl ?_
 refine wp_seq ?_
 refine rg ?_
 refine st (asB rfl) ?_
 refine rg_end ?_
 refine n_then ?_
 refine wp_seq ?_
 refine wp_seq ?_
 refine rg ?_
 refine st (mvI rfl) ?_
 refine st (mvP rfl) ?_
 refine st (y_nil rfl) ?_
 refine st (y_fld fld116_3 rfl) ?_
 refine st (y_lb hbs na22 rfl rfl) ?_
 refine st (y_len Try.underlying22 rfl) ?_
 refine st (y_eql rfl rfl) ?_
 refine rg_end ?_
 refine n_then ?_
 refine cnd rfl (fun hc0 => ?_) (fun hc0 => ?_)
 ·
  try simp only [nm] at hc0
  exfalso; omega
 ·
  try simp only [nm] at hc0
  refine wp_skip ?_
  refine n_then ?_
  refine wp_seq ?_
  refine wp_seq ?_
  refine rg ?_
  refine st (mvP rfl) ?_
  refine st (y_nil rfl) ?_
  refine st (y_fld fld116_1 rfl) ?_
  refine st (y_lb hbs na22 rfl rfl) ?_
  refine st (mvI rfl) ?_
  refine st (y_ix hL sl22 rfl (rfl) rfl (by omega) (by omega)) ?_
  refine st (y_le hL na3 rfl (by omega) (by omega) rfl) ?_
  refine st (mvI rfl) ?_
  refine rg_end ?_
  refine n_then ?_
  refine wp_block ?_
  clear htl hu0 hu1 hu2 hbl hTr
  refine lp (γ := Nat × Sr) [6, 7, 8, 9, 43, 44, 45, 46, 47, 48, 49, 50, 51, 52, 53, 54, 55, 56, 57, 58, 59, 60, 61, 62, 63, 64, 65, 66, 67, 68, 69, 70, 71, 72, 73, 74, 75, 76, 77, 78, 79, 80, 81, 82, 83, 84, 85, 86, 87, 88, 89, 90, 91, 92, 93, 94, 95, 96, 97, 98, 99, 100, 101, 102, 103, 104, 105, 106, 107] (fun ⟨x, s⟩ => [(43, .int .i64 (x : Int))]) (fun ⟨x, s⟩ w_ => Out bs (bt + 1) w w_ ∧ (x : Int) ≤ limI N i ∧ SMem bs bt hi w_ N A all B s ∧ srch N all B (m + 1) i s0 = lpS (bodyS N all B i (srch N all B m (i + 1))) ((limI N i).toNat - x) (x : Int) s ∧ Agr i s0.t s.t) (fun ⟨x, s⟩ => (limI N i).toNat - x) (0, s0) ⟨rfl, trivial⟩ ⟨Out.refl _ _ _, by omega, hM, rfl, Agr.refl _ _⟩ ?_
  rintro ⟨x, s⟩ hav_ w1 ⟨ho2, hx, hM, heq, hag⟩
  have hlp0 := ho2
  have hz3 := ho2.size
  replace hN := hN.out ho2 (by first | omega | (simp only [blk_some, hi1_some] at *; omega))
  replace hE := hE.step ho2 (by first | omega | (simp only [blk_some, hi1_some] at *; omega))
  obtain ⟨al, cl, ac, cc, ar, cr, L, rows, hbs, hL, hlim, hH, hRl, hrs, hcls, hT, hsi, hres, hb1, hb2, hb3⟩ := hM.ex
  have htl := hsi.1.1
  have hu0 := hsi.2.1
  have hu1 := hsi.2.2.1
  have hu2 := hsi.2.2.2
  have hbl := hbs.lt
  have hTr := hT.rng
  refine wp_seq ?_
  refine rg ?_
  refine st (y_lss rfl rfl) ?_
  refine rg_end ?_
  refine n_then ?_
  refine wp_seq ?_
  refine cnd rfl (fun hc1 => ?_) (fun hc1 => ?_)
  ·
   try simp only [nm] at hc1
   have hxl : x < (limI N i).toNat := by omega
   refine wp_skip ?_
   refine n_then ?_
   refine wp_seq ?_
   refine wp_block ?_
   refine wp_seq ?_
   refine rg ?_
   refine st (mvI rfl) ?_
   refine st (asI rfl) ?_
   refine rg_end ?_
   refine n_then ?_
   refine wp_seq ?_
   refine wp_seq ?_
   refine rgD 8 (fun w_ => Ext w1 w_) (fun i => false) mixed (by kernel_rfl) ?_
   intro w4 ho5 hs6
   refine ⟨ho5, ?_⟩
   have hx7 := ho5
   refine tn rfl (fun _ hG => mvP rfl) ?_
   refine tn rfl (fun _ hG => y_nil rfl) ?_
   refine tn rfl (fun _ hG => y_fld fld116_6 rfl) ?_
   refine tn rfl (fun _ hG => y_lb (hbs.ext hG) na3 rfl rfl) ?_
   refine tn rfl (fun _ hG => mvP rfl) ?_
   refine tn rfl (fun _ hG => y_nil rfl) ?_
   refine tn rfl (fun _ hG => y_fld fld116_5 rfl) ?_
   refine tn rfl (fun _ hG => y_lb (hbs.ext hG) na3 rfl rfl) ?_
   refine t_end ?_
   have hz8 := hx7.size
   replace hN := hN.ext hx7
   replace hE := hE.step hx7 (.inl (Nat.le_refl _))
   replace hbs := hbs.ext hx7
   replace hL := hL.ext hx7
   replace hH := hH.ext hx7
   replace hrs := hrs.ext hx7
   replace hT := hT.ext hx7
   replace hres := hres.ext hx7
   replace hlp0 := hlp0.step hx7 (.inl (Nat.le_refl _))
   refine st (y_eql rfl rfl) ?_
   refine rg_end ?_
   refine n_then ?_
   refine cnd rfl (fun hc2 => ?_) (fun hc2 => ?_)
   ·
    try simp only [nm] at hc2
    have hfin := heq.trans (lpS_no hxl (body_over hc2))
    refine wp_seq ?_
    refine rg ?_
    refine st (mvP rfl) ?_
    refine st (y_nil rfl) ?_
    refine st (y_fld fld116_7 rfl) ?_
    refine sd0 (d_st hbs sz4 rfl rfl rfl (Nat.le_of_ble_eq_true rfl) ?_)
    intro w9 hs11 ho10 hbs'
    clear hbs; have hbs := hbs'; clear hbs'
    have hz12 := ho10.size
    replace hN := hN.out ho10 (by first | omega | (simp only [blk_some, hi1_some] at *; omega))
    replace hE := hE.step ho10 (by first | omega | (simp only [blk_some, hi1_some] at *; omega))
    replace hL := hL.out ho10 (by first | omega | (simp only [blk_some, hi1_some] at *; omega))
    replace hH := hH.out ho10 (by first | omega | (simp only [blk_some, hi1_some] at *; omega))
    replace hrs := hrs.out ho10 (by first | omega | (simp only [blk_some, hi1_some] at *; omega))
    have hrnhT := hT.rng
    replace hT := hT.out ho10 (by first | omega | (simp only [blk_some, hi1_some] at *; omega))
    replace hres := hres.out ho10 (by first | omega | (simp only [blk_some, hi1_some] at *; omega))
    replace hlp0 := hlp0.step ho10 (by first | omega | (simp only [blk_some, hi1_some] at *; omega))
    refine rg_end ?_
    refine n_then ?_
    refine wp_seq ?_
    refine rg ?_
    refine st (asB rfl) ?_
    refine rg_end ?_
    refine n_then ?_
    refine wp_ret ?_
    refine r_then (r_blk (r_then (r_then (r_blk (r_then (ret1 (v := (.bool _)) Try.results83 rfl ?_))))))
    rw [hfin]
    exact ⟨rfl, ⟨al, cl, ac, cc, ar, cr, L, rows, hbs, hL, hlim, hH, hRl, hrs, hcls, hT, hsi, Sl.wide hres (Nat.le_refl _) (by omega), hb1, hb2, by omega⟩, hE⟩
   ·
    try simp only [nm] at hc2
    refine wp_skip ?_
    refine n_then ?_
    refine wp_seq ?_
    refine rg ?_
    refine st (mvP rfl) ?_
    refine st (y_nil rfl) ?_
    refine st (y_fld fld116_6 rfl) ?_
    refine st (y_lb hbs na3 rfl rfl) ?_
    refine st (y_add rfl rfl (by omega)) ?_
    refine st (y_nil rfl) ?_
    refine st (y_fld fld116_6 rfl) ?_
    refine sd0 (d_st hbs sz3 rfl rfl rfl (Nat.le_of_ble_eq_true rfl) ?_)
    intro w13 hs15 ho14 hbs'
    clear hbs; have hbs := hbs'; clear hbs'
    have hz16 := ho14.size
    replace hN := hN.out ho14 (by first | omega | (simp only [blk_some, hi1_some] at *; omega))
    replace hE := hE.step ho14 (by first | omega | (simp only [blk_some, hi1_some] at *; omega))
    replace hL := hL.out ho14 (by first | omega | (simp only [blk_some, hi1_some] at *; omega))
    replace hH := hH.out ho14 (by first | omega | (simp only [blk_some, hi1_some] at *; omega))
    replace hrs := hrs.out ho14 (by first | omega | (simp only [blk_some, hi1_some] at *; omega))
    have hrnhT := hT.rng
    replace hT := hT.out ho14 (by first | omega | (simp only [blk_some, hi1_some] at *; omega))
    replace hres := hres.out ho14 (by first | omega | (simp only [blk_some, hi1_some] at *; omega))
    replace hlp0 := hlp0.step ho14 (by first | omega | (simp only [blk_some, hi1_some] at *; omega))
    refine rg_end ?_
    refine n_then ?_
    refine wp_seq ?_
    refine rg ?_
    refine st (mvP rfl) ?_
    refine st (y_nil rfl) ?_
    refine st (y_fld fld116_3 rfl) ?_
    refine st (y_lb hbs na22 rfl rfl) ?_
    refine st (mvI rfl) ?_
    refine st (mvI rfl) ?_
    refine st (y_ix hT.sl sl22 rfl (rfl) rfl (by omega) (by omega)) ?_
    refine sd0 (d_se (j := 0) (e' := (x : Int)) hT sz3 rfl rfl rfl (by omega) (by omega) (Nat.le_of_ble_eq_true rfl) rfl ?_)
    intro w17 hs19 ho18 hT'
    have hrhT := hT.rng
    clear hT; have hT := hT'; clear hT'
    have hz20 := ho18.size
    replace hN := hN.out ho18 (by first | omega | (simp only [blk_some, hi1_some] at *; omega))
    replace hE := hE.step ho18 (by first | omega | (simp only [blk_some, hi1_some] at *; omega))
    replace hbs := hbs.out ho18 (by first | omega | (simp only [blk_some, hi1_some] at *; omega))
    replace hL := hL.out ho18 (by first | omega | (simp only [blk_some, hi1_some] at *; omega))
    replace hH := hH.out ho18 (by first | omega | (simp only [blk_some, hi1_some] at *; omega))
    replace hrs := hrs.out ho18 (by first | omega | (simp only [blk_some, hi1_some] at *; omega))
    replace hres := hres.out ho18 (by first | omega | (simp only [blk_some, hi1_some] at *; omega))
    replace hlp0 := hlp0.step ho18 (by first | omega | (simp only [blk_some, hi1_some] at *; omega))
    simp only [Int.toNat_natCast] at hT
    have hsi1 := hsi.step (x := (x : Int)) hc2 (show i < N.evs.length by omega) (by omega) (by omega)
    have hM1 : SMem bs bt hi _ N A all B (stepS i (x : Int) s) := ⟨al, cl, ac, cc, ar, cr, L, rows, (by rw [show (stepS i (x : Int) s).t.length = s.t.length from List.length_set]; exact hbs), hL, hlim, hH, hRl, hrs, hcls, hT, hsi1, Sl.wide hres (Nat.le_refl _) (by omega), hb1, hb2, by omega⟩
    have hag1 : Agr i s0.t (stepS i (x : Int) s).t := hag.trans (Agr.set i s.t (x : Int))
    have hcs : c0 = costTo N (stepS i (x : Int) s).t i := by rw [hc, cost_agr hok hag1]
    refine rg_end ?_
    refine n_then ?_
    refine wp_seq ?_
    refine rg ?_
    refine st (mvP rfl) ?_
    refine st (mvI rfl) ?_
    refine st (mvI rfl) ?_
    refine sc cl87 (search_add_ok N A _ _ bs bt hi all B (stepS i (x : Int) s) i _ _ hN hM1 hok h00 (by omega) hcs) rfl ?_
    rintro v25 w21 ⟨nx, rfl, hnx, ho22⟩
    have hz26 := ho22.size
    replace hN := hN.ext ho22
    replace hE := hE.step ho22 (.inl (Nat.le_refl _))
    replace hbs := hbs.ext ho22
    replace hL := hL.ext ho22
    replace hH := hH.ext ho22
    replace hrs := hrs.ext ho22
    replace hT := hT.ext ho22
    replace hres := hres.ext ho22
    replace hlp0 := hlp0.step ho22 (.inl (Nat.le_refl _))
    replace hM1 := hM1.ext ho22
    refine st (mvT rfl) ?_
    refine st (y_ext rfl rfl) ?_
    refine st (y_ext rfl rfl) ?_
    refine st (asI rfl) ?_
    refine st (asB rfl) ?_
    refine rg_end ?_
    refine n_then ?_
    refine wp_seq ?_
    refine cut (γ := Unit) [79, 80, 81, 82, 83, 84, 85, 86, 87, 88, 89, 90, 91, 92, 93, 94, 95, 96, 97, 98, 99, 100] (fun _ => [(100, .bool (skipS N all (stepS i (x : Int) s) i))]) (fun _ w_ => Ext w21 w_ ∧ True) ?_ ?_
    ·
     have hcut := Out.refl 0 0 w21
     refine rg ?_
     refine st (mvB rfl) ?_
     refine st (y_not rfl) ?_
     refine st (mvB rfl) ?_
     refine gspL 81 rfl (fun hg27 => ?_) (fun hg27 => ?_)
     ·
      have hg27n := hg27; try simp only [nm] at hg27n
      refine sts rfl rfl hg27 ?_
      refine sts rfl rfl hg27 ?_
      refine sts rfl rfl hg27 ?_
      refine sts rfl rfl hg27 ?_
      refine sts rfl rfl hg27 ?_
      refine stu rfl rfl ?_
      refine stu rfl rfl ?_
      refine stu rfl rfl ?_
      refine stu rfl rfl ?_
      refine sts rfl rfl hg27 ?_
      refine sts rfl rfl hg27 ?_
      refine stu rfl rfl ?_
      refine stu rfl rfl ?_
      refine stu rfl rfl ?_
      refine stu rfl rfl ?_
      refine stu rfl rfl ?_
      refine stu rfl rfl ?_
      refine sts rfl rfl hg27 ?_
      refine st (y_pickT rfl hg27 (v := .bool _) rfl) ?_
      refine rg_end ?_
      exact n_then ⟨(), _, rfl, same_lk rfl (same_rfl), ⟨vb (by unfold skipS; cases hz : okAt N (stepS i (x : Int) s).t (i : Int) <;> simp_all [stepS]), trivial⟩, ⟨hcut, trivial⟩⟩
     ·
      have hg27n := hg27; try simp only [nm] at hg27n
      refine stg rfl rfl hg27 (mvP rfl) ?_
      refine stg rfl rfl hg27 (y_nil rfl) ?_
      refine stg rfl rfl hg27 (y_fld fld116_4 rfl) ?_
      refine stg rfl rfl hg27 (y_lb hbs na4 rfl rfl) ?_
      refine stg rfl rfl hg27 (mvB rfl) ?_
      refine gspL 86 rfl (fun hg28 => ?_) (fun hg28 => ?_)
      ·
       have hg28n := hg28; try simp only [nm] at hg28n
       refine stg rfl rfl hg28 (mvP rfl) ?_
       refine stg rfl rfl hg28 (y_nil rfl) ?_
       refine stg rfl rfl hg28 (y_fld fld116_10 rfl) ?_
       refine stg rfl rfl hg28 (y_lb hbs na4 rfl rfl) ?_
       refine stg rfl rfl hg27 (y_pickT rfl hg28 (v := .bool _) rfl) ?_
       refine stg rfl rfl hg27 (mvB rfl) ?_
       refine gspL 92 rfl (fun hg29 => ?_) (fun hg29 => ?_)
       ·
        have hg29n := hg29; try simp only [nm] at hg29n
        refine stg rfl rfl hg29 (mvI rfl) ?_
        refine stg rfl rfl hg29 (mvP rfl) ?_
        refine stg rfl rfl hg29 (y_nil rfl) ?_
        refine stg rfl rfl hg29 (y_fld fld116_9 rfl) ?_
        refine stg rfl rfl hg29 (y_lb hbs na3 rfl rfl) ?_
        refine stg rfl rfl hg29 (y_geq rfl rfl) ?_
        refine stg rfl rfl hg27 (y_pickT rfl hg29 (v := .bool _) rfl) ?_
        refine st (y_pickF rfl hg27 (v := .bool _) rfl) ?_
        refine rg_end ?_
        exact n_then ⟨(), _, rfl, same_lk rfl (same_rfl), ⟨vb (by unfold skipS; cases hz : okAt N (stepS i (x : Int) s).t (i : Int) <;> simp_all [stepS]), trivial⟩, ⟨hcut, trivial⟩⟩
       ·
        have hg29n := hg29; try simp only [nm] at hg29n
        refine sts rfl rfl hg29 ?_
        refine sts rfl rfl hg29 ?_
        refine sts rfl rfl hg29 ?_
        refine sts rfl rfl hg29 ?_
        refine sts rfl rfl hg29 ?_
        refine sts rfl rfl hg29 ?_
        refine stg rfl rfl hg27 (y_pickF rfl hg29 (v := .bool _) rfl) ?_
        refine st (y_pickF rfl hg27 (v := .bool _) rfl) ?_
        refine rg_end ?_
        exact n_then ⟨(), _, rfl, same_lk rfl (same_rfl), ⟨vb (by unfold skipS; cases hz : okAt N (stepS i (x : Int) s).t (i : Int) <;> simp_all [stepS]), trivial⟩, ⟨hcut, trivial⟩⟩
      ·
       have hg28n := hg28; try simp only [nm] at hg28n
       refine sts rfl rfl hg28 ?_
       refine sts rfl rfl hg28 ?_
       refine sts rfl rfl hg28 ?_
       refine sts rfl rfl hg28 ?_
       refine stg rfl rfl hg27 (y_pickF rfl hg28 (v := .bool _) rfl) ?_
       refine stg rfl rfl hg27 (mvB rfl) ?_
       refine sts rfl rfl rfl ?_
       refine sts rfl rfl rfl ?_
       refine sts rfl rfl rfl ?_
       refine sts rfl rfl rfl ?_
       refine sts rfl rfl rfl ?_
       refine sts rfl rfl rfl ?_
       refine stg rfl rfl hg27 (y_pickF rfl rfl (v := .bool _) rfl) ?_
       refine st (y_pickF rfl hg27 (v := .bool _) rfl) ?_
       refine rg_end ?_
       exact n_then ⟨(), _, rfl, same_lk rfl (same_rfl), ⟨vb (by unfold skipS; cases hz : okAt N (stepS i (x : Int) s).t (i : Int) <;> simp_all [stepS]), trivial⟩, ⟨hcut, trivial⟩⟩
    ·
     rintro _ hav_ w30 ⟨ho31, _⟩
     have hz32 := ho31.size
     replace hN := hN.ext ho31
     replace hE := hE.step ho31 (.inl (Nat.le_refl _))
     replace hbs := hbs.ext ho31
     replace hL := hL.ext ho31
     replace hH := hH.ext ho31
     replace hrs := hrs.ext ho31
     replace hT := hT.ext ho31
     replace hres := hres.ext ho31
     replace hlp0 := hlp0.step ho31 (.inl (Nat.le_refl _))
     replace hM1 := hM1.ext ho31
     refine cnd rfl (fun hc3 => ?_) (fun hc3 => ?_)
     ·
      try simp only [nm] at hc3
      have hMn := hM1
      have heq1 := heq.trans (lpS_go hxl (body_skip hc2 hc3))
      have hagn := hag1
      refine wp_exit ?_
      refine e_then (e_blk (?_))
      refine n_then ?_
      refine rg ?_
      refine st (y_add rfl rfl (by omega)) ?_
      refine st (mvI rfl) ?_
      refine rg_end ?_
      exact n_then ⟨(x + 1, _), _, rfl, same_lk rfl (same_hav rfl (same_lk rfl (same_h0))), ⟨rfl, trivial⟩, ⟨hlp0, by omega, hMn, heq1, hagn⟩, by first | omega | (dsimp only; omega)⟩
     ·
      try simp only [nm] at hc3
      have hoka : okAt N (stepS i (x : Int) s).t i = true := by unfold skipS at hc3; simp only [Bool.or_eq_false_iff, Bool.not_eq_false'] at hc3; exact hc3.1
      have hnx1 := hnx hoka
      refine wp_skip ?_
      refine n_then ?_
      refine wp_seq ?_
      refine rg ?_
      refine st (mvP rfl) ?_
      refine st (mvI rfl) ?_
      refine st (y_add rfl rfl (by omega)) ?_
      refine st (mvI rfl) ?_
      have hM1' := hM1
      refine sc cl83 (ih (stepS i (x : Int) s) _ _ hN hM1' hnx1) rfl ?_
      rintro v37 w33 ⟨rfl, hM2, ho34⟩
      have hz38 := ho34.size
      replace hN := hN.out ho34 (by first | omega | (simp only [blk_some, hi1_some] at *; omega))
      replace hE := hE.step ho34 (by first | omega | (simp only [blk_some, hi1_some] at *; omega))
      replace hlp0 := hlp0.step ho34 (by first | omega | (simp only [blk_some, hi1_some] at *; omega))
      refine st (y_not rfl) ?_
      refine rg_end ?_
      refine n_then ?_
      refine cnd rfl (fun hc4 => ?_) (fun hc4 => ?_)
      ·
       try simp only [nm] at hc4
       have hfin := heq.trans (lpS_no hxl ((body_rec hc2 hc3).trans (Prod.ext hc4 rfl)))
       refine wp_seq ?_
       refine rg ?_
       refine st (asB rfl) ?_
       refine rg_end ?_
       refine n_then ?_
       refine wp_ret ?_
       refine r_blk (r_then (r_then (r_blk (r_then (ret1 (v := (.bool _)) Try.results83 rfl ?_)))))
       rw [hfin]
       exact ⟨rfl, hM2, hE⟩
      ·
       try simp only [nm] at hc4
       have hMn := hM2
       have heq1 := heq.trans (lpS_go hxl ((body_rec hc2 hc3).trans (Prod.ext hc4 rfl)))
       have hagn := hag1.trans ((srch_agr (N := N) (all := all) (B := B) m (i + 1) (stepS i (x : Int) s)).less (by omega))
       refine wp_skip ?_
       refine n_blk ?_
       refine n_then ?_
       refine rg ?_
       refine st (y_add rfl rfl (by omega)) ?_
       refine st (mvI rfl) ?_
       refine rg_end ?_
       exact n_then ⟨(x + 1, _), _, rfl, same_lk rfl (same_hav rfl (same_lk rfl (same_h0))), ⟨rfl, trivial⟩, ⟨hlp0, by omega, hMn, heq1, hagn⟩, by first | omega | (dsimp only; omega)⟩
  ·
   try simp only [nm] at hc1
   rw [lpS_end (by omega)] at heq
   refine wp_exit ?_
   refine e_then (e_then (e_blk (?_)))
   refine n_then ?_
   refine wp_seq ?_
   refine rg ?_
   refine st (asB rfl) ?_
   refine rg_end ?_
   refine n_then ?_
   refine wp_ret ?_
   refine ret1 (v := (.bool _)) Try.results83 rfl ?_
   rw [heq]
   exact ⟨rfl, hM, hE⟩

theorem search_extend_ok (N : Net) (A : NetA) (lo0 hi0 bs bt hi : Nat) (all : Bool) (B : Int) (hok : NetOk N) (h00 : hi0 ≤ bs) : ∀ (m i : Nat) (s : Sr) (c0 : Int) (w : World), NetIn lo0 hi0 w N A → SMem bs bt hi w N A all B s → i + m = N.evs.length → c0 = costTo N s.t i →
    Cal Try.prog 83 [.pointer (some ⟨bs, 0, none⟩), .int .i64 (i : Int), .int .i64 c0] w (fun v w' => v = .bool (srch N all B m i s).1 ∧ SMem bs bt hi w' N A all B (srch N all B m i s).2 ∧ Out bs (bt + 1) w w')
  | 0, i, s, c0, w, hN, hM, him, hc => by
    obtain rfl : i = N.evs.length := by omega
    exact search_extend0_ok N A lo0 hi0 bs bt hi all B s c0 w hN hM hok h00 hc
  | m + 1, i, s, c0, w, hN, hM, him, hc => search_extendS_ok N A lo0 hi0 bs bt hi all B m i s c0 w hN hM hok h00 him hc (fun s' c' w' hN' hM' hc' => by
      have h := search_extend_ok N A lo0 hi0 bs bt hi all B hok h00 m (i + 1) s' c' w' hN' hM' (by omega) (by simpa using hc')
      simpa using h)
end Go.Proofs.Ytclligkngjhihaa
