/-
  Walks of the functions, printed by a program out of the code and the loops' relations.
-/
import Derived.Test.YtclligkngjhihaaWkG
import Derived.Test.YtclligkngjhihaaProg
import Derived.KernelRfl
import Derived.Test.YtclligkngjhihaaE6
namespace Go.Proofs.Ytclligkngjhihaa
open Go.Wk Go.RowKit
set_option linter.unusedVariables false
set_option linter.unusedSimpArgs false
theorem cl68 : Callable Try.prog 68 := ⟨Try.call68⟩
theorem cl76 : Callable Try.prog 76 := ⟨Try.call76⟩
theorem cl77 : Callable Try.prog 77 := ⟨Try.call77⟩
theorem fld88_1 : FieldOf Try.prog 88 1 3 := fun b o w => by simp [Instr.fieldAt, fieldPlace, Instr.sureAddr, Addr.add_lit]
theorem fld88_2 : FieldOf Try.prog 88 2 4 := fun b o w => by simp [Instr.fieldAt, fieldPlace, Instr.sureAddr, Addr.add_lit]
theorem fld88_3 : FieldOf Try.prog 88 3 5 := fun b o w => by simp [Instr.fieldAt, fieldPlace, Instr.sureAddr, Addr.add_lit]
theorem fld88_4 : FieldOf Try.prog 88 4 6 := fun b o w => by simp [Instr.fieldAt, fieldPlace, Instr.sureAddr, Addr.add_lit]
theorem fld88_8 : FieldOf Try.prog 88 8 10 := fun b o w => by simp [Instr.fieldAt, fieldPlace, Instr.sureAddr, Addr.add_lit]
theorem na81 : NotAgg Try.prog 81 := Try.isAgg81
theorem sl81 : SliceOf Try.prog 81 4 1 := ⟨Try.underlying81, Try.sizeOf4⟩

theorem Rd.three {bs : Nat} {w : World} {a b c : Value} {r : List Value} (h : Rd bs 9 w (a :: b :: c :: r)) : ∀ j u, [a, b, c][j]? = some u → w.cell? ⟨bs, 0 + j, none⟩ = some u := by
  intro j u hu
  have hj : j < 3 := by
    rcases Nat.lt_or_ge j 3 with h | h
    · exact h
    · rw [List.getElem?_eq_none h] at hu; cases hu
  exact h.get _ _ (by omega) (pre3 j u hu)
theorem RMem.out {z bs : Nat} {w w' : World} {N : Net} {A : NetA} {all : Bool} {B : Int} {s : Sr} {a c : Nat} (h : RMem z bs w N A all B s) (ho : Out a c w w') (hs : w.heap.size ≤ a ∨ c ≤ z ∨ c ≤ a) : RMem z bs w' N A all B s := by
  obtain ⟨bt, bf, ar, cr, Fl, h1, h2, h3, h4, h5, h6, h7, d1, d2, d3, d4, d5, d6⟩ := h.ex
  have := ho.size
  exact ⟨bt, bf, ar, cr, Fl, h1.out ho (by omega), h2.out ho (by simp only [blk_some]; omega), h3, h4, h5.out ho (by simp only [blk_some]; omega), h6, Sl.wide (Sl.out h7 ho (by omega)) (Nat.le_refl _) (by omega), d1, d2, d3, d4, d5, by omega⟩
theorem RMem.ext {z bs : Nat} {w w' : World} {N : Net} {A : NetA} {all : Bool} {B : Int} {s : Sr} (h : RMem z bs w N A all B s) (ho : Ext w w') : RMem z bs w' N A all B s := h.out ho (.inr (.inr (Nat.le_refl _)))

set_option maxHeartbeats 1000000 in
set_option maxRecDepth 100000 in
theorem ref17_visit0_ok (N : Net) (A : NetA) (lo0 hi0 z bs : Nat) (all : Bool) (B : Int) (s : Sr) (w : World) (hN : NetIn lo0 hi0 w N A) (hM : RMem z bs w N A all B s) (hok : NetOk N) (h00 : hi0 ≤ z)  : Cal Try.prog 68 [.pointer (some ⟨bs, 0, none⟩), .int .i64 (N.evs.length : Int)] w (fun v w' => v = .bool all ∧ RMem z bs w' N A all B (leafS N N.evs.length s) ∧ Out z (bs + 1) w w') := by
 obtain ⟨bt, bf, ar, cr, Fl, hbs, hF, hFl, hFv, hT, hsi, hres, d1, d2, d3, d4, d5, d6⟩ := hM.ex
 have htl := hsi.1.1
 have hu0 := hsi.2.1
 have hu1 := hsi.2.2.1
 have hu2 := hsi.2.2.2
 have hbl := hbs.lt
 have hne := hok.ev
 have hna := hok.ac
 have hp2 := hok.p2
 have hp7 := hok.p7
 have hgt := hsi.good hok
 have hE : Out z (bs + 1) w w := Out.refl _ _ w
 refine enter Try.func68 rfl Try.ntmps68 rfl ?_
 refine wp_seq ?_
 refine rg ?_
 refine st (asB rfl) ?_
 refine rg_end ?_
 refine n_then ?_
 refine wp_seq ?_
 refine wp_seq ?_
 refine rg ?_
 refine st (mvI rfl) ?_
 refine st (mvP rfl) ?_
 refine st (y_nil rfl) ?_
 refine st (y_fld fld88_0 rfl) ?_
 refine st (y_fld fld26_1 rfl) ?_
 refine st (y_lb hbs na23 rfl rfl) ?_
 refine st (y_len Try.underlying23 rfl) ?_
 refine st (y_eql rfl rfl) ?_
 refine rg_end ?_
 refine n_then ?_
 refine cnd rfl (fun hc0 => ?_) (fun hc0 => ?_)
 ·
  try simp only [nm] at hc0
  refine wp_seq ?_
  refine rg ?_
  refine st (mvP rfl) ?_
  refine st (y_nil rfl) ?_
  refine st (y_fld fld88_6 rfl) ?_
  refine sd0 (d_st hbs sz4 rfl rfl rfl (Nat.le_of_ble_eq_true rfl) ?_)
  intro w1 hs3 ho2 hbs'
  clear hbs; have hbs := hbs'; clear hbs'
  have hz4 := ho2.size
  have hrnhF := hF.rng
  replace hF := hF.out ho2 (by first | omega | (simp only [blk_some, hi1_some] at *; omega))
  have hrnhT := hT.rng
  replace hT := hT.out ho2 (by first | omega | (simp only [blk_some, hi1_some] at *; omega))
  replace hres := hres.out ho2 (by first | omega | (simp only [blk_some, hi1_some] at *; omega))
  replace hN := hN.out ho2 (by first | omega | (simp only [blk_some, hi1_some] at *; omega))
  replace hE := hE.step ho2 (by first | omega | (simp only [blk_some, hi1_some] at *; omega))
  refine rg_end ?_
  refine n_then ?_
  refine wp_seq ?_
  refine rg ?_
  refine st (mvP rfl) ?_
  refine st (mvP rfl) ?_
  refine st (y_nil rfl) ?_
  refine st (y_fld fld88_9 rfl) ?_
  refine st (y_lb hbs na22 rfl rfl) ?_
  have hcl := Ow.nil (E := 3) (sz := 1) (enc := encI) (lo := (bs + 1)) (hi := 0) (w := w1) (fun _ => rfl)
  have hrhcl := hcl.rng
  refine sd (d_appN (xs := s.t) hcl sl22 infoz3 (by decide) rfl rfl rfl (rfl) (hT.sl) (fun _ => rfl) (by simp; unfold maxLen; omega) (by simp; omega) (by omega) (Nat.zero_le _) ?_)
  intro ar1 cr1 w5 ho6 hcl'
  have hs7 := ho6.size
  clear hcl; have hcl := hcl'; clear hcl'
  have hz10 := ho6.size
  replace hbs := hbs.out ho6 (by first | omega | (simp only [blk_some, hi1_some] at *; omega))
  replace hF := hF.out ho6 (by first | omega | (simp only [blk_some, hi1_some] at *; omega))
  replace hT := hT.out ho6 (by first | omega | (simp only [blk_some, hi1_some] at *; omega))
  replace hres := hres.out ho6 (by first | omega | (simp only [blk_some, hi1_some] at *; omega))
  replace hN := hN.out ho6 (by first | omega | (simp only [blk_some, hi1_some] at *; omega))
  replace hE := hE.step ho6 (by first | omega | (simp only [blk_some, hi1_some] at *; omega))
  simp only [List.nil_append] at hcl ⊢
  have hclr := hcl.rng
  refine st (y_nil rfl) ?_
  refine st (y_fld fld88_8 rfl) ?_
  refine sd0 (d_st hbs sz22 rfl rfl rfl (Nat.le_of_ble_eq_true rfl) ?_)
  intro w11 hs13 ho12 hbs'
  clear hbs; have hbs := hbs'; clear hbs'
  have hz14 := ho12.size
  replace hF := hF.out ho12 (by first | omega | (simp only [blk_some, hi1_some] at *; omega))
  replace hT := hT.out ho12 (by first | omega | (simp only [blk_some, hi1_some] at *; omega))
  replace hres := hres.out ho12 (by first | omega | (simp only [blk_some, hi1_some] at *; omega))
  replace hN := hN.out ho12 (by first | omega | (simp only [blk_some, hi1_some] at *; omega))
  replace hE := hE.step ho12 (by first | omega | (simp only [blk_some, hi1_some] at *; omega))
  have hrnhcl := hcl.rng
  replace hcl := hcl.out ho12 (by first | omega | (simp only [blk_some, hi1_some] at *; omega))
  refine rg_end ?_
  refine n_then ?_
  refine wp_seq ?_
  have hrd : Rd bs 9 _ [.int .i64 N.p, .slice A.ae N.evs.length A.ce, .slice A.aa N.acts.length A.ca, .slice (some ⟨bf, 0, none⟩) N.evs.length N.evs.length, .int .i64 B, .int .i64 (usedR s), .bool s.over, .bool all, .bool true, .int .i64 s.best, .slice ar1 s.t.length cr1, .slice (some ⟨bt, 0, none⟩) s.t.length N.evs.length] := Rd.of hbs
  refine rgD 16 (fun w_ => Out bs (bs + 1) w11 w_ ∧ Rd bs 9 w_ [.int .i64 N.p, .slice A.ae N.evs.length A.ce, .slice A.aa N.acts.length A.ca, .slice (some ⟨bf, 0, none⟩) N.evs.length N.evs.length, .int .i64 B, .int .i64 (usedR s), .bool s.over, .bool all, .bool true, .int .i64 s.best, .slice ar1 s.t.length cr1, .slice (some ⟨bt, 0, none⟩) s.t.length N.evs.length]) (fun i => Nat.beq i 9 || Nat.beq i 15) mixed (by kernel_rfl) ?_
  intro w15 ho16 hs17
  replace hrd := hrd.ext ho16
  refine ⟨⟨ho16.wide (.inl (Nat.le_refl _)), hrd⟩, ?_⟩
  have hx18 := ho16.wide (a' := bs) (b' := (bs + 1)) (.inl (Nat.le_refl _))
  replace hbs := hbs.ext ho16
  refine tn rfl (fun _ hG => mvP rfl) ?_
  refine tn rfl (fun _ hG => mvP rfl) ?_
  refine tn rfl (fun _ hG => y_nil rfl) ?_
  refine tn rfl (fun _ hG => y_fld fld88_0 rfl) ?_
  refine tn rfl (fun _ hG => y_ldN (cs := netCells N A) agg26 rfl hG.2.three) ?_
  refine tn rfl (fun _ hG => mvP rfl) ?_
  refine tn rfl (fun _ hG => y_nil rfl) ?_
  refine tn rfl (fun _ hG => y_fld fld88_9 rfl) ?_
  refine tn rfl (fun _ hG => y_ld na22 rfl (hG.2.get 11 _ (by decide) rfl)) ?_
  refine tc rfl cl76 (ref11_Cost_ok N A _ _ s.t _ _ _ _ _ (hN.out hx18 (by first | omega | (simp only [blk_some, hi1_some] at *; omega))) (Ow.sl (hT.out hx18 (by first | omega | (simp only [blk_some, hi1_some] at *; omega))))) rfl ?_
  rintro v23 w19 ⟨cv, ev_, rfl, hcy, hcn, ho20⟩
  obtain ⟨hcv, hev⟩ := hcy (goodT_iff.2 hgt)
  have hcv' : cv = costTo N s.t (N.evs.length : Int) := hcv.trans (cost_all hok)
  have hx24 := hx18.step ho20 (.inl (Nat.le_refl _))
  have hz25 := ho20.size
  replace hbs := hbs.ext ho20
  replace hrd := hrd.ext ho20
  refine ⟨⟨hx24, hrd⟩, ?_⟩
  refine tn rfl (fun _ hG => mvT rfl) ?_
  refine tn rfl (fun _ hG => y_ext rfl rfl) ?_
  refine tn rfl (fun _ hG => y_ext rfl rfl) ?_
  refine tn rfl (fun _ hG => y_nil rfl) ?_
  refine tn rfl (fun _ hG => y_fld fld88_7 rfl) ?_
  refine td0 rfl (d_st hbs sz3 rfl rfl rfl (Nat.le_of_ble_eq_true rfl) ?_)
  intro w26 hs28 ho27 hbs'
  clear hbs; have hbs := hbs'; clear hbs'
  have hx29 : Out bs (bs + 1) w11 w26 := hx24.step ho27 (by first | omega | (simp only [blk_some, hi1_some] at *; omega))
  have hz30 := ho27.size
  have hrd : Rd bs 9 _ [.int .i64 N.p, .slice A.ae N.evs.length A.ce, .slice A.aa N.acts.length A.ca, .slice (some ⟨bf, 0, none⟩) N.evs.length N.evs.length, .int .i64 B, .int .i64 (usedR s), .bool s.over, .bool all, .bool true, .int .i64 s.best, .slice ar1 s.t.length cr1, .slice (some ⟨bt, 0, none⟩) s.t.length N.evs.length] := Rd.set hbs
  refine ⟨⟨hx29, hrd⟩, ?_⟩
  refine t_end ?_
  have hz31 := hx29.size
  replace hF := hF.out hx29 (by first | omega | (simp only [blk_some, hi1_some] at *; omega))
  replace hT := hT.out hx29 (by first | omega | (simp only [blk_some, hi1_some] at *; omega))
  replace hres := hres.out hx29 (by first | omega | (simp only [blk_some, hi1_some] at *; omega))
  replace hN := hN.out hx29 (by first | omega | (simp only [blk_some, hi1_some] at *; omega))
  replace hE := hE.step hx29 (by first | omega | (simp only [blk_some, hi1_some] at *; omega))
  replace hcl := hcl.out hx29 (by first | omega | (simp only [blk_some, hi1_some] at *; omega))
  refine rg_end ?_
  refine n_then ?_
  refine wp_seq ?_
  refine rg ?_
  refine st (mvP rfl) ?_
  refine st (y_nil rfl) ?_
  refine st (y_fld fld88_5 rfl) ?_
  refine st (y_lb hbs na4 rfl rfl) ?_
  refine st (asB rfl) ?_
  refine rg_end ?_
  refine n_then ?_
  refine wp_ret ?_
  refine r_then (ret1 (v := (.bool _)) Try.results68 rfl ?_)
  subst hcv'
  exact ⟨rfl, ⟨bt, bf, ar1, cr1, Fl, hbs, hF, hFl, hFv, hT, hsi, Sl.wide hcl.sl (by omega) (by omega), d1, d2, d3, d4, d5, by omega⟩, hE⟩
 ·
  try simp only [nm] at hc0
  exfalso; simp at hc0

set_option maxHeartbeats 2000000 in
set_option maxRecDepth 100000 in
theorem ref17_visitS_ok (N : Net) (A : NetA) (lo0 hi0 z bs : Nat) (all : Bool) (B : Int) (m i : Nat) (s0 : Sr) (w : World) (hN : NetIn lo0 hi0 w N A) (hM : RMem z bs w N A all B s0) (hok : NetOk N) (h00 : hi0 ≤ z) (him : i + (m + 1) = N.evs.length) (hov0 : s0.over = false) (hot : OkTo N s0.t i) (ih : ∀ (s : Sr) (w : World), NetIn lo0 hi0 w N A → RMem z bs w N A all B s → s.over = false → OkTo N s.t (i + 1) → Cal Try.prog 68 [.pointer (some ⟨bs, 0, none⟩), .int .i64 ((i : Int) + 1)] w (fun v w' => v = .bool (srch N all B m (i + 1) s).1 ∧ RMem z bs w' N A all B (srch N all B m (i + 1) s).2 ∧ Out z (bs + 1) w w'))  : Cal Try.prog 68 [.pointer (some ⟨bs, 0, none⟩), .int .i64 (i : Int)] w (fun v w' => v = .bool (srch N all B (m + 1) i s0).1 ∧ RMem z bs w' N A all B (srch N all B (m + 1) i s0).2 ∧ Out z (bs + 1) w w') := by
 obtain ⟨bt, bf, ar, cr, Fl, hbs, hF, hFl, hFv, hT, hsi, hres, d1, d2, d3, d4, d5, d6⟩ := hM.ex
 have htl := hsi.1.1
 have hu0 := hsi.2.1
 have hu1 := hsi.2.2.1
 have hu2 := hsi.2.2.2
 have hbl := hbs.lt
 have hne := hok.ev
 have hna := hok.ac
 have hp2 := hok.p2
 have hp7 := hok.p7
 have hlr := limI_rng (i := i) hok
 have hfi := hFv i (by omega)
 have hE : Out z (bs + 1) w w := Out.refl _ _ w
 refine enter Try.func68 rfl Try.ntmps68 rfl ?_
 refine wp_seq ?_
 refine rg ?_
 refine st (asB rfl) ?_
 refine rg_end ?_
 refine n_then ?_
 refine wp_seq ?_
 refine wp_seq ?_
 refine rg ?_
 refine st (mvI rfl) ?_
 refine st (mvP rfl) ?_
 refine st (y_nil rfl) ?_
 refine st (y_fld fld88_0 rfl) ?_
 refine st (y_fld fld26_1 rfl) ?_
 refine st (y_lb hbs na23 rfl rfl) ?_
 refine st (y_len Try.underlying23 rfl) ?_
 refine st (y_eql rfl rfl) ?_
 refine rg_end ?_
 refine n_then ?_
 refine cnd rfl (fun hc0 => ?_) (fun hc0 => ?_)
 ·
  try simp only [nm] at hc0
  exfalso; omega
 ·
  try simp only [nm] at hc0
  refine wp_skip ?_
  refine n_then ?_
  refine wp_seq ?_
  refine rg ?_
  refine st (mvP rfl) ?_
  refine st (y_nil rfl) ?_
  refine st (y_fld fld88_0 rfl) ?_
  refine st (y_fld fld26_0 rfl) ?_
  refine st (y_lb hbs na3 rfl rfl) ?_
  refine st (asI rfl) ?_
  refine rg_end ?_
  refine n_then ?_
  refine wp_seq ?_
  refine wp_seq ?_
  refine rg ?_
  refine st (mvP rfl) ?_
  refine st (y_nil rfl) ?_
  refine st (y_fld fld88_1 rfl) ?_
  refine st (y_lb hbs na81 rfl rfl) ?_
  refine st (mvI rfl) ?_
  refine st (y_ix hF.sl sl81 rfl (hFl.symm) rfl (by omega) (by omega)) ?_
  refine st (y_le hF.sl na4 rfl (by omega) (by omega) rfl) ?_
  refine rg_end ?_
  refine n_then ?_
  refine cnd rfl (fun hc1 => ?_) (fun hc1 => ?_)
  ·
   try simp only [nm] at hc1
   have hlm : limI N i = 1 := by unfold limI; rw [if_pos (hfi.symm.trans hc1)]
   refine rg ?_
   refine st (asI rfl) ?_
   refine rg_end ?_
   refine n_then ?_
   refine wp_seq ?_
   refine wp_seq ?_
   refine rg ?_
   refine st (asI rfl) ?_
   refine rg_end ?_
   refine n_then ?_
   refine wp_block ?_
   clear htl hu0 hu1 hu2 hbl
   refine lp (γ := Nat × Sr) [4, 6, 57, 58, 59, 60, 61, 62, 63, 64, 65, 66, 67, 68, 69, 70, 71, 72, 73, 74, 75, 76, 77, 78, 79, 80, 81, 82, 83, 84, 85, 86, 87, 88, 89, 90, 91, 92, 93, 94, 95, 96, 97, 98] (fun ⟨x, s⟩ => [(6, .int .i64 (x : Int))]) (fun ⟨x, s⟩ w_ => Out z (bs + 1) w w_ ∧ (x : Int) ≤ limI N i ∧ RMem z bs w_ N A all B s ∧ s.over = false ∧ srch N all B (m + 1) i s0 = lpS (bodyS N all B i (srch N all B m (i + 1))) ((limI N i).toNat - x) (x : Int) s ∧ Agr i s0.t s.t) (fun ⟨x, s⟩ => (limI N i).toNat - x) (0, s0) ⟨rfl, trivial⟩ ⟨Out.refl _ _ _, by omega, hM, hov0, rfl, Agr.refl _ _⟩ ?_
   rintro ⟨x, s⟩ hav_ w1 ⟨ho2, hx, hM, hov, heq, hag⟩
   have hlp0 := ho2
   have hz3 := ho2.size
   replace hN := hN.out ho2 (by first | omega | (simp only [blk_some, hi1_some] at *; omega))
   replace hE := hE.step ho2 (by first | omega | (simp only [blk_some, hi1_some] at *; omega))
   obtain ⟨bt, bf, ar, cr, Fl, hbs, hF, hFl, hFv, hT, hsi, hres, d1, d2, d3, d4, d5, d6⟩ := hM.ex
   have htl := hsi.1.1
   have hu0 := hsi.2.1
   have hu1 := hsi.2.2.1
   have hu2 := hsi.2.2.2
   have hbl := hbs.lt
   refine wp_seq ?_
   refine wp_seq ?_
   refine rg ?_
   refine st (mvI rfl) ?_
   refine st (mvI rfl) ?_
   refine st (y_lss rfl rfl) ?_
   refine rg_end ?_
   refine n_then ?_
   refine cnd rfl (fun hc2 => ?_) (fun hc2 => ?_)
   ·
    try simp only [nm] at hc2
    have hxl : x < (limI N i).toNat := by omega
    refine wp_skip ?_
    refine n_then ?_
    refine wp_seq ?_
    refine wp_block ?_
    refine wp_seq ?_
    refine rg ?_
    refine st (mvP rfl) ?_
    refine st (y_nil rfl) ?_
    refine st (y_fld fld88_3 rfl) ?_
    refine st (y_lb hbs na3 rfl rfl) ?_
    refine st (y_add rfl rfl (by rw [usedR_no hov]; omega)) ?_
    refine st (y_nil rfl) ?_
    refine st (y_fld fld88_3 rfl) ?_
    refine sd0 (d_st hbs sz3 rfl rfl rfl (Nat.le_of_ble_eq_true rfl) ?_)
    intro w4 hs6 ho5 hbs'
    clear hbs; have hbs := hbs'; clear hbs'
    have hz7 := ho5.size
    replace hN := hN.out ho5 (by first | omega | (simp only [blk_some, hi1_some] at *; omega))
    replace hE := hE.step ho5 (by first | omega | (simp only [blk_some, hi1_some] at *; omega))
    have hrnhF := hF.rng
    replace hF := hF.out ho5 (by first | omega | (simp only [blk_some, hi1_some] at *; omega))
    have hrnhT := hT.rng
    replace hT := hT.out ho5 (by first | omega | (simp only [blk_some, hi1_some] at *; omega))
    replace hres := hres.out ho5 (by first | omega | (simp only [blk_some, hi1_some] at *; omega))
    replace hlp0 := hlp0.step ho5 (by first | omega | (simp only [blk_some, hi1_some] at *; omega))
    refine rg_end ?_
    refine n_then ?_
    refine wp_seq ?_
    refine wp_seq ?_
    refine rgD 8 (fun w_ => Ext w4 w_) (fun i => false) mixed (by kernel_rfl) ?_
    intro w8 ho9 hs10
    refine ⟨ho9, ?_⟩
    have hx11 := ho9
    refine tn rfl (fun _ hG => mvP rfl) ?_
    refine tn rfl (fun _ hG => y_nil rfl) ?_
    refine tn rfl (fun _ hG => y_fld fld88_3 rfl) ?_
    refine tn rfl (fun _ hG => y_lb (hbs.ext hG) na3 rfl rfl) ?_
    refine tn rfl (fun _ hG => mvP rfl) ?_
    refine tn rfl (fun _ hG => y_nil rfl) ?_
    refine tn rfl (fun _ hG => y_fld fld88_2 rfl) ?_
    refine tn rfl (fun _ hG => y_lb (hbs.ext hG) na3 rfl rfl) ?_
    refine t_end ?_
    have hz12 := hx11.size
    replace hN := hN.ext hx11
    replace hE := hE.step hx11 (.inl (Nat.le_refl _))
    replace hbs := hbs.ext hx11
    replace hF := hF.ext hx11
    replace hT := hT.ext hx11
    replace hres := hres.ext hx11
    replace hlp0 := hlp0.step hx11 (.inl (Nat.le_refl _))
    refine st (y_gtr rfl rfl) ?_
    refine rg_end ?_
    refine n_then ?_
    refine cnd rfl (fun hc3 => ?_) (fun hc3 => ?_)
    ·
     try simp only [nm] at hc3
     have hub : s.used = B := by rw [usedR_no hov] at hc3; omega
     have hfin := heq.trans (lpS_no hxl (body_over hub))
     refine wp_seq ?_
     refine rg ?_
     refine st (mvP rfl) ?_
     refine st (y_nil rfl) ?_
     refine st (y_fld fld88_4 rfl) ?_
     refine sd0 (d_st hbs sz4 rfl rfl rfl (Nat.le_of_ble_eq_true rfl) ?_)
     intro w13 hs15 ho14 hbs'
     clear hbs; have hbs := hbs'; clear hbs'
     have hz16 := ho14.size
     replace hN := hN.out ho14 (by first | omega | (simp only [blk_some, hi1_some] at *; omega))
     replace hE := hE.step ho14 (by first | omega | (simp only [blk_some, hi1_some] at *; omega))
     replace hF := hF.out ho14 (by first | omega | (simp only [blk_some, hi1_some] at *; omega))
     replace hT := hT.out ho14 (by first | omega | (simp only [blk_some, hi1_some] at *; omega))
     replace hres := hres.out ho14 (by first | omega | (simp only [blk_some, hi1_some] at *; omega))
     replace hlp0 := hlp0.step ho14 (by first | omega | (simp only [blk_some, hi1_some] at *; omega))
     refine rg_end ?_
     refine n_then ?_
     refine wp_seq ?_
     refine rg ?_
     refine st (asB rfl) ?_
     refine rg_end ?_
     refine n_then ?_
     refine wp_ret ?_
     refine r_then (r_blk (r_then (r_then (r_blk (r_then (ret1 (v := (.bool _)) Try.results68 rfl ?_))))))
     rw [hfin]
     exact ⟨rfl, ⟨bt, bf, ar, cr, Fl, (by rw [show usedR { s with over := true } = usedR s + 1 by unfold usedR; simp [hov]]; exact hbs), hF, hFl, hFv, hT, hsi, Sl.wide hres (Nat.le_refl _) (by omega), d1, d2, d3, d4, d5, by omega⟩, hE⟩
    ·
     try simp only [nm] at hc3
     have hub : ¬ s.used = B := by rw [usedR_no hov] at hc3; omega
     refine wp_skip ?_
     refine n_then ?_
     refine wp_seq ?_
     refine rg ?_
     refine st (mvP rfl) ?_
     refine st (y_nil rfl) ?_
     refine st (y_fld fld88_9 rfl) ?_
     refine st (y_lb hbs na22 rfl rfl) ?_
     refine st (mvI rfl) ?_
     refine st (mvI rfl) ?_
     refine st (y_ix hT.sl sl22 rfl (rfl) rfl (by omega) (by omega)) ?_
     refine sd0 (d_se (j := 0) (e' := (x : Int)) hT sz3 rfl rfl rfl (by omega) (by omega) (Nat.le_of_ble_eq_true rfl) rfl ?_)
     intro w17 hs19 ho18 hT'
     have hrhT := hT.rng
     clear hT; have hT := hT'; clear hT'
     have hz20 := ho18.size
     replace hN := hN.out ho18 (by first | omega | (simp only [blk_some, hi1_some] at *; omega))
     replace hE := hE.step ho18 (by first | omega | (simp only [blk_some, hi1_some] at *; omega))
     replace hbs := hbs.out ho18 (by first | omega | (simp only [blk_some, hi1_some] at *; omega))
     replace hF := hF.out ho18 (by first | omega | (simp only [blk_some, hi1_some] at *; omega))
     replace hres := hres.out ho18 (by first | omega | (simp only [blk_some, hi1_some] at *; omega))
     replace hlp0 := hlp0.step ho18 (by first | omega | (simp only [blk_some, hi1_some] at *; omega))
     simp only [Int.toNat_natCast] at hT
     have hsi1 := hsi.step (x := (x : Int)) hub (show i < N.evs.length by omega) (by omega) (by omega)
     have hM1 : RMem z bs _ N A all B (stepS i (x : Int) s) := ⟨bt, bf, ar, cr, Fl, (by rw [show (stepS i (x : Int) s).t.length = s.t.length from List.length_set, show usedR (stepS i (x : Int) s) = usedR s + 1 by unfold usedR stepS; dsimp only; omega]; exact hbs), hF, hFl, hFv, hT, hsi1, Sl.wide hres (Nat.le_refl _) (by omega), d1, d2, d3, d4, d5, by omega⟩
     have hag1 : Agr i s0.t (stepS i (x : Int) s).t := hag.trans (Agr.set i s.t (x : Int))
     have hot1 := hot.agr hok hag1
     refine rg_end ?_
     refine n_then ?_
     refine wp_seq ?_
     refine rg ?_
     refine st (mvP rfl) ?_
     refine st (mvI rfl) ?_
     refine sc cl77 (ref17_discarded_ok N A _ _ z bs all B (stepS i (x : Int) s) i _ hN hM1 hok h00 (by omega) hot1) rfl ?_
     rintro v25 w21 ⟨rfl, ho22⟩
     have hz26 := ho22.size
     replace hN := hN.ext ho22
     replace hE := hE.step ho22 (.inl (Nat.le_refl _))
     replace hlp0 := hlp0.step ho22 (.inl (Nat.le_refl _))
     replace hM1 := hM1.ext ho22
     refine st (y_not rfl) ?_
     refine st (mvB rfl) ?_
     refine gspL 92 rfl (fun hg27 => ?_) (fun hg27 => ?_)
     ·
      have hg27n := hg27; try simp only [nm] at hg27n
      have hsk : skipS N all (stepS i (x : Int) s) i = false := by simpa using hg27
      have hoka : okAt N (stepS i (x : Int) s).t i = true := by unfold skipS at hsk; simp only [Bool.or_eq_false_iff, Bool.not_eq_false'] at hsk; exact hsk.1
      have hot2 := hot1.next hoka
      refine stg rfl rfl hg27 (mvP rfl) ?_
      refine stg rfl rfl hg27 (mvI rfl) ?_
      refine stg rfl rfl hg27 (y_add rfl rfl (by omega)) ?_
      have hM1' := hM1
      refine scg rfl rfl hg27 cl68 (ih (stepS i (x : Int) s) _ hN hM1' hov hot2) rfl ?_
      rintro v32 w28 ⟨rfl, hM2, ho29⟩
      have hz33 := ho29.size
      replace hN := hN.out ho29 (by first | omega | (simp only [blk_some, hi1_some] at *; omega))
      replace hE := hE.step ho29 (by first | omega | (simp only [blk_some, hi1_some] at *; omega))
      replace hlp0 := hlp0.step ho29 (by first | omega | (simp only [blk_some, hi1_some] at *; omega))
      refine stg rfl rfl hg27 (y_not rfl) ?_
      refine st (y_pickT rfl hg27 (v := .bool _) rfl) ?_
      refine rg_end ?_
      refine n_then ?_
      refine cnd rfl (fun hc4 => ?_) (fun hc4 => ?_)
      ·
       try simp only [nm] at hc4
       have hfin := heq.trans (lpS_no hxl ((body_rec hub hsk).trans (Prod.ext hc4 rfl)))
       refine wp_seq ?_
       refine rg ?_
       refine st (asB rfl) ?_
       refine rg_end ?_
       refine n_then ?_
       refine wp_ret ?_
       refine r_blk (r_then (r_then (r_blk (r_then (ret1 (v := (.bool _)) Try.results68 rfl ?_)))))
       rw [hfin]
       exact ⟨rfl, hM2, hE⟩
      ·
       try simp only [nm] at hc4
       try have hovn := (fun (_ : RMem z bs _ N A all B (srch N all B m (i + 1) (stepS i (x : Int) s)).2) => (srch_over m (i + 1) (stepS i (x : Int) s) hc4).trans hov) hM2
       try have hagn := (fun (_ : RMem z bs _ N A all B (srch N all B m (i + 1) (stepS i (x : Int) s)).2) => hag1.trans ((srch_agr (N := N) (all := all) (B := B) m (i + 1) (stepS i (x : Int) s)).less (by omega))) hM2
       try have heq1 := (fun (_ : RMem z bs _ N A all B (srch N all B m (i + 1) (stepS i (x : Int) s)).2) => heq.trans (lpS_go hxl ((body_rec hub hsk).trans (Prod.ext hc4 rfl)))) hM2
       try have hMn := hM2
       refine wp_skip ?_
       refine n_blk ?_
       refine n_then ?_
       refine rg ?_
       refine st (mvI rfl) ?_
       refine st (y_add rfl rfl (by omega)) ?_
       refine st (asI rfl) ?_
       refine rg_end ?_
       exact n_then ⟨(x + 1, _), _, rfl, same_lk rfl (same_h0), ⟨rfl, trivial⟩, ⟨hlp0, by omega, hMn, hovn, heq1, hagn⟩, by first | omega | (dsimp only; omega)⟩
     ·
      have hg27n := hg27; try simp only [nm] at hg27n
      have hsk : skipS N all (stepS i (x : Int) s) i = true := by simpa using hg27
      have hMn := hM1
      have heq1 := heq.trans (lpS_go hxl (body_skip hub hsk))
      have hagn := hag1
      have hovn : (stepS i (x : Int) s).over = false := hov
      refine sts rfl rfl hg27 ?_
      refine sts rfl rfl hg27 ?_
      refine sts rfl rfl hg27 ?_
      refine sts rfl rfl hg27 ?_
      refine sts rfl rfl hg27 ?_
      refine st (y_pickF rfl hg27 (v := .bool _) rfl) ?_
      refine rg_end ?_
      refine n_then ?_
      refine cnd rfl (fun hc4 => absurd hc4 (by decide)) (fun hc4 => ?_)
      try have hovn := (fun (_ : RMem z bs _ N A all B (srch N all B m (i + 1) (stepS i (x : Int) s)).2) => (srch_over m (i + 1) (stepS i (x : Int) s) hc4).trans hov) hM2
      try have hagn := (fun (_ : RMem z bs _ N A all B (srch N all B m (i + 1) (stepS i (x : Int) s)).2) => hag1.trans ((srch_agr (N := N) (all := all) (B := B) m (i + 1) (stepS i (x : Int) s)).less (by omega))) hM2
      try have heq1 := (fun (_ : RMem z bs _ N A all B (srch N all B m (i + 1) (stepS i (x : Int) s)).2) => heq.trans (lpS_go hxl ((body_rec hub hsk).trans (Prod.ext hc4 rfl)))) hM2
      try have hMn := hM2
      refine wp_skip ?_
      refine n_blk ?_
      refine n_then ?_
      refine rg ?_
      refine st (mvI rfl) ?_
      refine st (y_add rfl rfl (by omega)) ?_
      refine st (asI rfl) ?_
      refine rg_end ?_
      exact n_then ⟨(x + 1, _), _, rfl, same_lk rfl (same_h0), ⟨rfl, trivial⟩, ⟨hlp0, by omega, hMn, hovn, heq1, hagn⟩, by first | omega | (dsimp only; omega)⟩
   ·
    try simp only [nm] at hc2
    rw [lpS_end (by omega)] at heq
    refine wp_exit ?_
    refine e_then (e_then (e_blk (?_)))
    refine n_then ?_
    refine wp_seq ?_
    refine rg ?_
    refine st (asB rfl) ?_
    refine rg_end ?_
    refine n_then ?_
    refine wp_ret ?_
    refine ret1 (v := (.bool _)) Try.results68 rfl ?_
    rw [heq]
    exact ⟨rfl, hM, hE⟩
  ·
   try simp only [nm] at hc1
   have hlm : limI N i = N.p := by unfold limI; rw [if_neg (by rw [← hfi, hc1]; decide)]
   refine wp_skip ?_
   refine n_then ?_
   refine wp_seq ?_
   refine wp_seq ?_
   refine rg ?_
   refine st (asI rfl) ?_
   refine rg_end ?_
   refine n_then ?_
   refine wp_block ?_
   clear htl hu0 hu1 hu2 hbl
   refine lp (γ := Nat × Sr) [4, 6, 57, 58, 59, 60, 61, 62, 63, 64, 65, 66, 67, 68, 69, 70, 71, 72, 73, 74, 75, 76, 77, 78, 79, 80, 81, 82, 83, 84, 85, 86, 87, 88, 89, 90, 91, 92, 93, 94, 95, 96, 97, 98] (fun ⟨x, s⟩ => [(6, .int .i64 (x : Int))]) (fun ⟨x, s⟩ w_ => Out z (bs + 1) w w_ ∧ (x : Int) ≤ limI N i ∧ RMem z bs w_ N A all B s ∧ s.over = false ∧ srch N all B (m + 1) i s0 = lpS (bodyS N all B i (srch N all B m (i + 1))) ((limI N i).toNat - x) (x : Int) s ∧ Agr i s0.t s.t) (fun ⟨x, s⟩ => (limI N i).toNat - x) (0, s0) ⟨rfl, trivial⟩ ⟨Out.refl _ _ _, by omega, hM, hov0, rfl, Agr.refl _ _⟩ ?_
   rintro ⟨x, s⟩ hav_ w34 ⟨ho35, hx, hM, hov, heq, hag⟩
   have hlp0 := ho35
   have hz36 := ho35.size
   replace hN := hN.out ho35 (by first | omega | (simp only [blk_some, hi1_some] at *; omega))
   replace hE := hE.step ho35 (by first | omega | (simp only [blk_some, hi1_some] at *; omega))
   obtain ⟨bt, bf, ar, cr, Fl, hbs, hF, hFl, hFv, hT, hsi, hres, d1, d2, d3, d4, d5, d6⟩ := hM.ex
   have htl := hsi.1.1
   have hu0 := hsi.2.1
   have hu1 := hsi.2.2.1
   have hu2 := hsi.2.2.2
   have hbl := hbs.lt
   refine wp_seq ?_
   refine wp_seq ?_
   refine rg ?_
   refine st (mvI rfl) ?_
   refine st (mvI rfl) ?_
   refine st (y_lss rfl rfl) ?_
   refine rg_end ?_
   refine n_then ?_
   refine cnd rfl (fun hc2 => ?_) (fun hc2 => ?_)
   ·
    try simp only [nm] at hc2
    have hxl : x < (limI N i).toNat := by omega
    refine wp_skip ?_
    refine n_then ?_
    refine wp_seq ?_
    refine wp_block ?_
    refine wp_seq ?_
    refine rg ?_
    refine st (mvP rfl) ?_
    refine st (y_nil rfl) ?_
    refine st (y_fld fld88_3 rfl) ?_
    refine st (y_lb hbs na3 rfl rfl) ?_
    refine st (y_add rfl rfl (by rw [usedR_no hov]; omega)) ?_
    refine st (y_nil rfl) ?_
    refine st (y_fld fld88_3 rfl) ?_
    refine sd0 (d_st hbs sz3 rfl rfl rfl (Nat.le_of_ble_eq_true rfl) ?_)
    intro w37 hs39 ho38 hbs'
    clear hbs; have hbs := hbs'; clear hbs'
    have hz40 := ho38.size
    replace hN := hN.out ho38 (by first | omega | (simp only [blk_some, hi1_some] at *; omega))
    replace hE := hE.step ho38 (by first | omega | (simp only [blk_some, hi1_some] at *; omega))
    have hrnhF := hF.rng
    replace hF := hF.out ho38 (by first | omega | (simp only [blk_some, hi1_some] at *; omega))
    have hrnhT := hT.rng
    replace hT := hT.out ho38 (by first | omega | (simp only [blk_some, hi1_some] at *; omega))
    replace hres := hres.out ho38 (by first | omega | (simp only [blk_some, hi1_some] at *; omega))
    replace hlp0 := hlp0.step ho38 (by first | omega | (simp only [blk_some, hi1_some] at *; omega))
    refine rg_end ?_
    refine n_then ?_
    refine wp_seq ?_
    refine wp_seq ?_
    refine rgD 8 (fun w_ => Ext w37 w_) (fun i => false) mixed (by kernel_rfl) ?_
    intro w41 ho42 hs43
    refine ⟨ho42, ?_⟩
    have hx44 := ho42
    refine tn rfl (fun _ hG => mvP rfl) ?_
    refine tn rfl (fun _ hG => y_nil rfl) ?_
    refine tn rfl (fun _ hG => y_fld fld88_3 rfl) ?_
    refine tn rfl (fun _ hG => y_lb (hbs.ext hG) na3 rfl rfl) ?_
    refine tn rfl (fun _ hG => mvP rfl) ?_
    refine tn rfl (fun _ hG => y_nil rfl) ?_
    refine tn rfl (fun _ hG => y_fld fld88_2 rfl) ?_
    refine tn rfl (fun _ hG => y_lb (hbs.ext hG) na3 rfl rfl) ?_
    refine t_end ?_
    have hz45 := hx44.size
    replace hN := hN.ext hx44
    replace hE := hE.step hx44 (.inl (Nat.le_refl _))
    replace hbs := hbs.ext hx44
    replace hF := hF.ext hx44
    replace hT := hT.ext hx44
    replace hres := hres.ext hx44
    replace hlp0 := hlp0.step hx44 (.inl (Nat.le_refl _))
    refine st (y_gtr rfl rfl) ?_
    refine rg_end ?_
    refine n_then ?_
    refine cnd rfl (fun hc3 => ?_) (fun hc3 => ?_)
    ·
     try simp only [nm] at hc3
     have hub : s.used = B := by rw [usedR_no hov] at hc3; omega
     have hfin := heq.trans (lpS_no hxl (body_over hub))
     refine wp_seq ?_
     refine rg ?_
     refine st (mvP rfl) ?_
     refine st (y_nil rfl) ?_
     refine st (y_fld fld88_4 rfl) ?_
     refine sd0 (d_st hbs sz4 rfl rfl rfl (Nat.le_of_ble_eq_true rfl) ?_)
     intro w46 hs48 ho47 hbs'
     clear hbs; have hbs := hbs'; clear hbs'
     have hz49 := ho47.size
     replace hN := hN.out ho47 (by first | omega | (simp only [blk_some, hi1_some] at *; omega))
     replace hE := hE.step ho47 (by first | omega | (simp only [blk_some, hi1_some] at *; omega))
     replace hF := hF.out ho47 (by first | omega | (simp only [blk_some, hi1_some] at *; omega))
     replace hT := hT.out ho47 (by first | omega | (simp only [blk_some, hi1_some] at *; omega))
     replace hres := hres.out ho47 (by first | omega | (simp only [blk_some, hi1_some] at *; omega))
     replace hlp0 := hlp0.step ho47 (by first | omega | (simp only [blk_some, hi1_some] at *; omega))
     refine rg_end ?_
     refine n_then ?_
     refine wp_seq ?_
     refine rg ?_
     refine st (asB rfl) ?_
     refine rg_end ?_
     refine n_then ?_
     refine wp_ret ?_
     refine r_then (r_blk (r_then (r_then (r_blk (r_then (ret1 (v := (.bool _)) Try.results68 rfl ?_))))))
     rw [hfin]
     exact ⟨rfl, ⟨bt, bf, ar, cr, Fl, (by rw [show usedR { s with over := true } = usedR s + 1 by unfold usedR; simp [hov]]; exact hbs), hF, hFl, hFv, hT, hsi, Sl.wide hres (Nat.le_refl _) (by omega), d1, d2, d3, d4, d5, by omega⟩, hE⟩
    ·
     try simp only [nm] at hc3
     have hub : ¬ s.used = B := by rw [usedR_no hov] at hc3; omega
     refine wp_skip ?_
     refine n_then ?_
     refine wp_seq ?_
     refine rg ?_
     refine st (mvP rfl) ?_
     refine st (y_nil rfl) ?_
     refine st (y_fld fld88_9 rfl) ?_
     refine st (y_lb hbs na22 rfl rfl) ?_
     refine st (mvI rfl) ?_
     refine st (mvI rfl) ?_
     refine st (y_ix hT.sl sl22 rfl (rfl) rfl (by omega) (by omega)) ?_
     refine sd0 (d_se (j := 0) (e' := (x : Int)) hT sz3 rfl rfl rfl (by omega) (by omega) (Nat.le_of_ble_eq_true rfl) rfl ?_)
     intro w50 hs52 ho51 hT'
     have hrhT := hT.rng
     clear hT; have hT := hT'; clear hT'
     have hz53 := ho51.size
     replace hN := hN.out ho51 (by first | omega | (simp only [blk_some, hi1_some] at *; omega))
     replace hE := hE.step ho51 (by first | omega | (simp only [blk_some, hi1_some] at *; omega))
     replace hbs := hbs.out ho51 (by first | omega | (simp only [blk_some, hi1_some] at *; omega))
     replace hF := hF.out ho51 (by first | omega | (simp only [blk_some, hi1_some] at *; omega))
     replace hres := hres.out ho51 (by first | omega | (simp only [blk_some, hi1_some] at *; omega))
     replace hlp0 := hlp0.step ho51 (by first | omega | (simp only [blk_some, hi1_some] at *; omega))
     simp only [Int.toNat_natCast] at hT
     have hsi1 := hsi.step (x := (x : Int)) hub (show i < N.evs.length by omega) (by omega) (by omega)
     have hM1 : RMem z bs _ N A all B (stepS i (x : Int) s) := ⟨bt, bf, ar, cr, Fl, (by rw [show (stepS i (x : Int) s).t.length = s.t.length from List.length_set, show usedR (stepS i (x : Int) s) = usedR s + 1 by unfold usedR stepS; dsimp only; omega]; exact hbs), hF, hFl, hFv, hT, hsi1, Sl.wide hres (Nat.le_refl _) (by omega), d1, d2, d3, d4, d5, by omega⟩
     have hag1 : Agr i s0.t (stepS i (x : Int) s).t := hag.trans (Agr.set i s.t (x : Int))
     have hot1 := hot.agr hok hag1
     refine rg_end ?_
     refine n_then ?_
     refine wp_seq ?_
     refine rg ?_
     refine st (mvP rfl) ?_
     refine st (mvI rfl) ?_
     refine sc cl77 (ref17_discarded_ok N A _ _ z bs all B (stepS i (x : Int) s) i _ hN hM1 hok h00 (by omega) hot1) rfl ?_
     rintro v58 w54 ⟨rfl, ho55⟩
     have hz59 := ho55.size
     replace hN := hN.ext ho55
     replace hE := hE.step ho55 (.inl (Nat.le_refl _))
     replace hlp0 := hlp0.step ho55 (.inl (Nat.le_refl _))
     replace hM1 := hM1.ext ho55
     refine st (y_not rfl) ?_
     refine st (mvB rfl) ?_
     refine gspL 92 rfl (fun hg60 => ?_) (fun hg60 => ?_)
     ·
      have hg60n := hg60; try simp only [nm] at hg60n
      have hsk : skipS N all (stepS i (x : Int) s) i = false := by simpa using hg60
      have hoka : okAt N (stepS i (x : Int) s).t i = true := by unfold skipS at hsk; simp only [Bool.or_eq_false_iff, Bool.not_eq_false'] at hsk; exact hsk.1
      have hot2 := hot1.next hoka
      refine stg rfl rfl hg60 (mvP rfl) ?_
      refine stg rfl rfl hg60 (mvI rfl) ?_
      refine stg rfl rfl hg60 (y_add rfl rfl (by omega)) ?_
      have hM1' := hM1
      refine scg rfl rfl hg60 cl68 (ih (stepS i (x : Int) s) _ hN hM1' hov hot2) rfl ?_
      rintro v65 w61 ⟨rfl, hM2, ho62⟩
      have hz66 := ho62.size
      replace hN := hN.out ho62 (by first | omega | (simp only [blk_some, hi1_some] at *; omega))
      replace hE := hE.step ho62 (by first | omega | (simp only [blk_some, hi1_some] at *; omega))
      replace hlp0 := hlp0.step ho62 (by first | omega | (simp only [blk_some, hi1_some] at *; omega))
      refine stg rfl rfl hg60 (y_not rfl) ?_
      refine st (y_pickT rfl hg60 (v := .bool _) rfl) ?_
      refine rg_end ?_
      refine n_then ?_
      refine cnd rfl (fun hc4 => ?_) (fun hc4 => ?_)
      ·
       try simp only [nm] at hc4
       have hfin := heq.trans (lpS_no hxl ((body_rec hub hsk).trans (Prod.ext hc4 rfl)))
       refine wp_seq ?_
       refine rg ?_
       refine st (asB rfl) ?_
       refine rg_end ?_
       refine n_then ?_
       refine wp_ret ?_
       refine r_blk (r_then (r_then (r_blk (r_then (ret1 (v := (.bool _)) Try.results68 rfl ?_)))))
       rw [hfin]
       exact ⟨rfl, hM2, hE⟩
      ·
       try simp only [nm] at hc4
       try have hovn := (fun (_ : RMem z bs _ N A all B (srch N all B m (i + 1) (stepS i (x : Int) s)).2) => (srch_over m (i + 1) (stepS i (x : Int) s) hc4).trans hov) hM2
       try have hagn := (fun (_ : RMem z bs _ N A all B (srch N all B m (i + 1) (stepS i (x : Int) s)).2) => hag1.trans ((srch_agr (N := N) (all := all) (B := B) m (i + 1) (stepS i (x : Int) s)).less (by omega))) hM2
       try have heq1 := (fun (_ : RMem z bs _ N A all B (srch N all B m (i + 1) (stepS i (x : Int) s)).2) => heq.trans (lpS_go hxl ((body_rec hub hsk).trans (Prod.ext hc4 rfl)))) hM2
       try have hMn := hM2
       refine wp_skip ?_
       refine n_blk ?_
       refine n_then ?_
       refine rg ?_
       refine st (mvI rfl) ?_
       refine st (y_add rfl rfl (by omega)) ?_
       refine st (asI rfl) ?_
       refine rg_end ?_
       exact n_then ⟨(x + 1, _), _, rfl, same_lk rfl (same_h0), ⟨rfl, trivial⟩, ⟨hlp0, by omega, hMn, hovn, heq1, hagn⟩, by first | omega | (dsimp only; omega)⟩
     ·
      have hg60n := hg60; try simp only [nm] at hg60n
      have hsk : skipS N all (stepS i (x : Int) s) i = true := by simpa using hg60
      have hMn := hM1
      have heq1 := heq.trans (lpS_go hxl (body_skip hub hsk))
      have hagn := hag1
      have hovn : (stepS i (x : Int) s).over = false := hov
      refine sts rfl rfl hg60 ?_
      refine sts rfl rfl hg60 ?_
      refine sts rfl rfl hg60 ?_
      refine sts rfl rfl hg60 ?_
      refine sts rfl rfl hg60 ?_
      refine st (y_pickF rfl hg60 (v := .bool _) rfl) ?_
      refine rg_end ?_
      refine n_then ?_
      refine cnd rfl (fun hc4 => absurd hc4 (by decide)) (fun hc4 => ?_)
      try have hovn := (fun (_ : RMem z bs _ N A all B (srch N all B m (i + 1) (stepS i (x : Int) s)).2) => (srch_over m (i + 1) (stepS i (x : Int) s) hc4).trans hov) hM2
      try have hagn := (fun (_ : RMem z bs _ N A all B (srch N all B m (i + 1) (stepS i (x : Int) s)).2) => hag1.trans ((srch_agr (N := N) (all := all) (B := B) m (i + 1) (stepS i (x : Int) s)).less (by omega))) hM2
      try have heq1 := (fun (_ : RMem z bs _ N A all B (srch N all B m (i + 1) (stepS i (x : Int) s)).2) => heq.trans (lpS_go hxl ((body_rec hub hsk).trans (Prod.ext hc4 rfl)))) hM2
      try have hMn := hM2
      refine wp_skip ?_
      refine n_blk ?_
      refine n_then ?_
      refine rg ?_
      refine st (mvI rfl) ?_
      refine st (y_add rfl rfl (by omega)) ?_
      refine st (asI rfl) ?_
      refine rg_end ?_
      exact n_then ⟨(x + 1, _), _, rfl, same_lk rfl (same_h0), ⟨rfl, trivial⟩, ⟨hlp0, by omega, hMn, hovn, heq1, hagn⟩, by first | omega | (dsimp only; omega)⟩
   ·
    try simp only [nm] at hc2
    rw [lpS_end (by omega)] at heq
    refine wp_exit ?_
    refine e_then (e_then (e_blk (?_)))
    refine n_then ?_
    refine wp_seq ?_
    refine rg ?_
    refine st (asB rfl) ?_
    refine rg_end ?_
    refine n_then ?_
    refine wp_ret ?_
    refine ret1 (v := (.bool _)) Try.results68 rfl ?_
    rw [heq]
    exact ⟨rfl, hM, hE⟩

theorem ref17_visit_ok (N : Net) (A : NetA) (lo0 hi0 z bs : Nat) (all : Bool) (B : Int) (hok : NetOk N) (h00 : hi0 ≤ z) : ∀ (m i : Nat) (s : Sr) (w : World), NetIn lo0 hi0 w N A → RMem z bs w N A all B s → i + m = N.evs.length → s.over = false → OkTo N s.t i →
    Cal Try.prog 68 [.pointer (some ⟨bs, 0, none⟩), .int .i64 (i : Int)] w (fun v w' => v = .bool (srch N all B m i s).1 ∧ RMem z bs w' N A all B (srch N all B m i s).2 ∧ Out z (bs + 1) w w')
  | 0, i, s, w, hN, hM, him, hov, hot => by
    obtain rfl : i = N.evs.length := by omega
    exact ref17_visit0_ok N A lo0 hi0 z bs all B s w hN hM hok h00
  | m + 1, i, s, w, hN, hM, him, hov, hot => ref17_visitS_ok N A lo0 hi0 z bs all B m i s w hN hM hok h00 him hov hot (fun s' w' hN' hM' hov' hot' => by
      have h := ref17_visit_ok N A lo0 hi0 z bs all B hok h00 m (i + 1) s' w' hN' hM' (by omega) hov' hot'
      simpa using h)
end Go.Proofs.Ytclligkngjhihaa
