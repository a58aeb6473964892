/-
  Walks of the functions, printed by a program out of the code and the loops' relations.
-/
import Derived.Test.YtdbiapbdmmkfjaaWkD
import Derived.Test.YtdbiapbdmmkfjaaProg
import Derived.KernelRfl
import Derived.Test.YtdbiapbdmmkfjaaG2
namespace Go.Proofs.Ytdbiapbdmmkfjaa
open Go.Wk Go.RowKit
set_option linter.unusedVariables false
set_option linter.unusedSimpArgs false
theorem cl60 : Callable Try.prog 60 := ⟨Try.call60⟩
theorem fld67_1 : FieldOf Try.prog 67 1 3 := fun b o w => by simp [Instr.fieldAt, fieldPlace, Instr.sureAddr, Addr.add_lit]
theorem na65 : NotAgg Try.prog 65 := Try.isAgg65
theorem sl65 : SliceOf Try.prog 65 68 1 := ⟨Try.underlying65, Try.sizeOf68⟩

set_option maxHeartbeats 2000000 in
set_option maxRecDepth 100000 in
theorem ref13_tighten_ok (N : Net) (A : NetA) (bx z hi : Nat) (aw : Option Addr) (cw : Nat) (rows : List Rb) (fb : Prop) (r : Int → Int) (w : World) (hbx : Blk w bx [.int .i64 N.p, .slice A.ae N.evs.length A.ce, .slice A.aa N.acts.length A.ca, .slice aw rows.length cw]) (hT : Tab z hi w aw cw N.p rows) (hd : bx < z) (hz : hi ≤ w.heap.size) (hok : NetOk N) (hlen : (rows.length : Int) = (N.evs.length : Int) * (N.evs.length : Int)) (hst : Stay fb r rows) (hres : ResOk N fb r) : Cal Try.prog 39 [.pointer (some ⟨bx, 0, none⟩)] w (fun v w' => ∃ b rows', v = .bool b ∧ Tab z hi w' aw cw N.p rows' ∧ rows'.length = rows.length ∧ Stay fb r rows' ∧ (b = true → totB rows' < totB rows) ∧ Out z hi w w') := by
  have hev := hok.ev
  have hp2 := hok.p2
  have hp7 := hok.p7
  have hbl := hbx.lt
  have hE : Out z hi w w := Out.refl _ _ w
  refine enter Try.func39 rfl Try.ntmps39 rfl ?_
  refine wp_seq ?_
  refine rg ?_
  refine st (asB rfl) ?_
  refine rg_end ?_
  refine n_then ?_
  refine wp_seq ?_
  refine rg ?_
  refine st (mvP rfl) ?_
  refine st (y_nil rfl) ?_
  refine st (y_fld fld67_0 rfl) ?_
  refine st (y_fld fld26_1 rfl) ?_
  refine st (y_lb hbx na23 rfl rfl) ?_
  refine st (y_len Try.underlying23 rfl) ?_
  refine st (asI rfl) ?_
  refine st (asB rfl) ?_
  refine rg_end ?_
  refine n_then ?_
  refine wp_seq ?_
  refine wp_seq ?_
  refine rg ?_
  refine st (asI rfl) ?_
  refine rg_end ?_
  refine n_then ?_
  refine wp_block ?_
  refine lp (γ := Nat × Bool × List Rb) [4, 5, 6, 7, 14, 15, 16, 17, 18, 19, 20, 21, 22, 23, 24, 25, 26, 27, 28, 29, 30, 31, 32, 33, 34, 35, 36, 37, 38, 39, 40, 41, 42, 43, 44, 45, 46, 47, 48, 49, 50, 51, 52, 53, 54, 55, 56, 57, 58, 59, 60, 61, 62, 63] (fun ⟨i, b, rows2⟩ => [(5, .int .i64 (i : Int)), (4, .bool b)]) (fun ⟨i, b, rows2⟩ w_ => Out z hi w w_ ∧ (i : Int) ≤ (N.evs.length : Int) ∧ rows2.length = rows.length ∧ Tab z hi w_ aw cw N.p rows2 ∧ Stay fb r rows2 ∧ (b = true → totB rows2 < totB rows) ∧ totB rows2 ≤ totB rows) (fun ⟨i, b, rows2⟩ => N.evs.length - i) (0, false, rows) ⟨rfl, rfl, trivial⟩ ⟨Out.refl _ _ _, by omega, rfl, hT, hst, (fun h => by cases h), Nat.le_refl _⟩ ?_
  rintro ⟨i, b, rows2⟩ hav_ w1 ⟨ho2, hi_, hrl, hT, hst2, hbc, hcl⟩
  have hlp0 := ho2
  have hz3 := ho2.size
  replace hbx := hbx.out ho2 (by first | omega | (simp only [blk_some, hi1_some] at *; omega))
  replace hE := hE.step ho2 (by first | omega | (simp only [blk_some, hi1_some] at *; omega))
  refine wp_seq ?_
  refine wp_seq ?_
  refine rg ?_
  refine st (mvI rfl) ?_
  refine st (mvI rfl) ?_
  refine st (y_lss rfl rfl) ?_
  refine rg_end ?_
  refine n_then ?_
  refine cnd rfl (fun hc0 => ?_) (fun hc0 => ?_)
  ·
    try simp only [decide_eq_true_eq, decide_eq_false_iff_not, Bool.not_eq_true', Bool.not_eq_false', Bool.and_eq_true, Bool.or_eq_true, Bool.or_eq_false_iff, Bool.cond_true_right, Bool.cond_false_right, Bool.cond_true_left, Bool.cond_false_left, ne_eq, Decidable.not_not, bne_iff_ne, beq_iff_eq, beq_eq_false_iff_ne, Bool.not_true, Bool.not_false] at hc0
    refine wp_skip ?_
    refine n_then ?_
    refine wp_seq ?_
    refine wp_block ?_
    refine wp_seq ?_
    refine rg ?_
    refine st (asI rfl) ?_
    refine rg_end ?_
    refine n_then ?_
    refine wp_block ?_
    refine lp (γ := Nat × Bool × List Rb) [4, 6, 7, 19, 20, 21, 22, 23, 24, 25, 26, 27, 28, 29, 30, 31, 32, 33, 34, 35, 36, 37, 38, 39, 40, 41, 42, 43, 44, 45, 46, 47, 48, 49, 50, 51, 52, 53, 54, 55, 56, 57, 58, 59, 60, 61, 62, 63] (fun ⟨j, b, rows2⟩ => [(6, .int .i64 (j : Int)), (4, .bool b)]) (fun ⟨j, b, rows2⟩ w_ => Out z hi w1 w_ ∧ (j : Int) ≤ (N.evs.length : Int) ∧ rows2.length = rows.length ∧ Tab z hi w_ aw cw N.p rows2 ∧ Stay fb r rows2 ∧ (b = true → totB rows2 < totB rows) ∧ totB rows2 ≤ totB rows) (fun ⟨j, b, rows2⟩ => N.evs.length - j) (0, b, rows2) ⟨rfl, rfl, trivial⟩ ⟨Out.refl _ _ _, by omega, hrl, hT, hst2, hbc, hcl⟩ ?_
    rintro ⟨j, b, rows2⟩ hav_ w4 ⟨ho5, hj_, hrl, hT, hst2, hbc, hcl⟩
    have hlp1 := ho5
    have hz6 := ho5.size
    replace hbx := hbx.out ho5 (by first | omega | (simp only [blk_some, hi1_some] at *; omega))
    replace hE := hE.step ho5 (by first | omega | (simp only [blk_some, hi1_some] at *; omega))
    replace hlp0 := hlp0.step ho5 (by first | omega | (simp only [blk_some, hi1_some] at *; omega))
    refine wp_seq ?_
    refine wp_seq ?_
    refine rg ?_
    refine st (mvI rfl) ?_
    refine st (mvI rfl) ?_
    refine st (y_lss rfl rfl) ?_
    refine rg_end ?_
    refine n_then ?_
    refine cnd rfl (fun hc1 => ?_) (fun hc1 => ?_)
    ·
      try simp only [decide_eq_true_eq, decide_eq_false_iff_not, Bool.not_eq_true', Bool.not_eq_false', Bool.and_eq_true, Bool.or_eq_true, Bool.or_eq_false_iff, Bool.cond_true_right, Bool.cond_false_right, Bool.cond_true_left, Bool.cond_false_left, ne_eq, Decidable.not_not, bne_iff_ne, beq_iff_eq, beq_eq_false_iff_ne, Bool.not_true, Bool.not_false] at hc1
      refine wp_skip ?_
      refine n_then ?_
      refine wp_seq ?_
      refine wp_block ?_
      refine wp_seq ?_
      refine rg ?_
      refine st (asI rfl) ?_
      refine rg_end ?_
      refine n_then ?_
      refine wp_block ?_
      refine lp (γ := Nat × Bool × List Rb) [4, 7, 24, 25, 26, 27, 28, 29, 30, 31, 32, 33, 34, 35, 36, 37, 38, 39, 40, 41, 42, 43, 44, 45, 46, 47, 48, 49, 50, 51, 52, 53, 54, 55, 56, 57, 58, 59, 60, 61, 62, 63] (fun ⟨k, b, rows2⟩ => [(7, .int .i64 (k : Int)), (4, .bool b)]) (fun ⟨k, b, rows2⟩ w_ => Out z hi w4 w_ ∧ (k : Int) ≤ (N.evs.length : Int) ∧ rows2.length = rows.length ∧ Tab z hi w_ aw cw N.p rows2 ∧ Stay fb r rows2 ∧ (b = true → totB rows2 < totB rows) ∧ totB rows2 ≤ totB rows) (fun ⟨k, b, rows2⟩ => N.evs.length - k) (0, b, rows2) ⟨rfl, rfl, trivial⟩ ⟨Out.refl _ _ _, by omega, hrl, hT, hst2, hbc, hcl⟩ ?_
      rintro ⟨k, b, rows2⟩ hav_ w7 ⟨ho8, hk_, hrl, hT, hst2, hbc, hcl⟩
      have hlp2 := ho8
      have hz9 := ho8.size
      replace hbx := hbx.out ho8 (by first | omega | (simp only [blk_some, hi1_some] at *; omega))
      replace hE := hE.step ho8 (by first | omega | (simp only [blk_some, hi1_some] at *; omega))
      replace hlp0 := hlp0.step ho8 (by first | omega | (simp only [blk_some, hi1_some] at *; omega))
      replace hlp1 := hlp1.step ho8 (by first | omega | (simp only [blk_some, hi1_some] at *; omega))
      refine wp_seq ?_
      refine wp_seq ?_
      refine rg ?_
      refine st (mvI rfl) ?_
      refine st (mvI rfl) ?_
      refine st (y_lss rfl rfl) ?_
      refine rg_end ?_
      refine n_then ?_
      refine cnd rfl (fun hc2 => ?_) (fun hc2 => ?_)
      ·
        try simp only [decide_eq_true_eq, decide_eq_false_iff_not, Bool.not_eq_true', Bool.not_eq_false', Bool.and_eq_true, Bool.or_eq_true, Bool.or_eq_false_iff, Bool.cond_true_right, Bool.cond_false_right, Bool.cond_true_left, Bool.cond_false_left, ne_eq, Decidable.not_not, bne_iff_ne, beq_iff_eq, beq_eq_false_iff_ne, Bool.not_true, Bool.not_false] at hc2
        have hTb := Ow.sl hT.tb
        have i1 := idx_rng (m := (N.evs.length : Int)) (i := (i : Int)) (k := (k : Int)) (by omega) (by omega) (by omega) (by omega) (by omega)
        have i2 := idx_rng (m := (N.evs.length : Int)) (i := (i : Int)) (k := (j : Int)) (by omega) (by omega) (by omega) (by omega) (by omega)
        have i3 := idx_rng (m := (N.evs.length : Int)) (i := (j : Int)) (k := (k : Int)) (by omega) (by omega) (by omega) (by omega) (by omega)
        refine wp_skip ?_
        refine n_then ?_
        refine wp_seq ?_
        refine wp_block ?_
        refine wp_seq ?_
        refine rgD 34 (fun w_ => Ext w7 w_) (fun i => false) mixed (by kernel_rfl) ?_
        intro w10 ho11 hs12
        refine ⟨ho11, ?_⟩
        have hx13 := ho11
        refine tn rfl (fun _ hG => mvP rfl) ?_
        refine tn rfl (fun _ hG => mvP rfl) ?_
        refine tn rfl (fun _ hG => y_nil rfl) ?_
        refine tn rfl (fun _ hG => y_fld fld67_1 rfl) ?_
        refine tn rfl (fun _ hG => y_lb (hbx.ext hG) na65 rfl rfl) ?_
        refine tn rfl (fun _ hG => mvI rfl) ?_
        refine tn rfl (fun _ hG => mvI rfl) ?_
        refine tn rfl (fun _ hG => y_mul rfl rfl (by omega)) ?_
        refine tn rfl (fun _ hG => mvI rfl) ?_
        refine tn rfl (fun _ hG => y_add rfl rfl (by omega)) ?_
        refine tn rfl (fun _ hG => y_ix (hTb.ext hG) sl65 rfl (hrl.symm) rfl (by omega) (by omega)) ?_
        refine tn rfl (fun _ hG => y_le (hTb.ext hG) na68 rfl (by omega) (by omega) rfl) ?_
        refine tn rfl (fun _ hG => mvP rfl) ?_
        refine tn rfl (fun _ hG => y_nil rfl) ?_
        refine tn rfl (fun _ hG => y_fld fld67_1 rfl) ?_
        refine tn rfl (fun _ hG => y_lb (hbx.ext hG) na65 rfl rfl) ?_
        refine tn rfl (fun _ hG => mvI rfl) ?_
        refine tn rfl (fun _ hG => mvI rfl) ?_
        refine tn rfl (fun _ hG => y_mul rfl rfl (by omega)) ?_
        refine tn rfl (fun _ hG => mvI rfl) ?_
        refine tn rfl (fun _ hG => y_add rfl rfl (by omega)) ?_
        refine tn rfl (fun _ hG => y_ix (hTb.ext hG) sl65 rfl (hrl.symm) rfl (by omega) (by omega)) ?_
        refine tn rfl (fun _ hG => y_le (hTb.ext hG) na68 rfl (by omega) (by omega) rfl) ?_
        refine tn rfl (fun _ hG => mvP rfl) ?_
        refine tn rfl (fun _ hG => y_nil rfl) ?_
        refine tn rfl (fun _ hG => y_fld fld67_1 rfl) ?_
        refine tn rfl (fun _ hG => y_lb (hbx.ext hG) na65 rfl rfl) ?_
        refine tn rfl (fun _ hG => mvI rfl) ?_
        refine tn rfl (fun _ hG => mvI rfl) ?_
        refine tn rfl (fun _ hG => y_mul rfl rfl (by omega)) ?_
        refine tn rfl (fun _ hG => mvI rfl) ?_
        refine tn rfl (fun _ hG => y_add rfl rfl (by omega)) ?_
        refine tn rfl (fun _ hG => y_ix (hTb.ext hG) sl65 rfl (hrl.symm) rfl (by omega) (by omega)) ?_
        refine tn rfl (fun _ hG => y_le (hTb.ext hG) na68 rfl (by omega) (by omega) rfl) ?_
        refine t_end ?_
        have hz14 := hx13.size
        replace hbx := hbx.ext hx13
        replace hE := hE.step hx13 (.inl (Nat.le_refl _))
        replace hlp0 := hlp0.step hx13 (.inl (Nat.le_refl _))
        replace hlp1 := hlp1.step hx13 (.inl (Nat.le_refl _))
        replace hT := hT.ext hx13
        replace hlp2 := hlp2.step hx13 (.inl (Nat.le_refl _))
        replace hTb := hTb.ext hx13
        refine sc cl60 (ref13_restrict_ok bx N.p _ _ _ z hi aw cw rows2 ((i : Int) * (N.evs.length : Int) + (k : Int)) ((i : Int) * (N.evs.length : Int) + (j : Int)) ((j : Int) * (N.evs.length : Int) + (k : Int)) fb r _ hbx hT hd (by omega) (by omega) (by omega) (by omega) (by omega) (by omega) (by omega) (by omega) hst2 hres.rng (hres.sum _ _ _ (by omega) (by omega) (by omega) (by omega) (by omega) (by omega))) rfl ?_
        rintro v19 w15 ⟨b3, l3, rfl, hT, hst3, hb3, hc3_, ho16⟩
        have htt := totB_el (rows := rows2) (u := ((i : Int) * (N.evs.length : Int) + (k : Int))) (r := ⟨(el rows2 ((i : Int) * (N.evs.length : Int) + (k : Int))).a, (el rows2 ((i : Int) * (N.evs.length : Int) + (k : Int))).c, l3⟩) (by omega) (by omega)
        dsimp only at htt
        have hrl3 : (rows2.set ((i : Int) * (N.evs.length : Int) + (k : Int)).toNat (⟨(el rows2 ((i : Int) * (N.evs.length : Int) + (k : Int))).a, (el rows2 ((i : Int) * (N.evs.length : Int) + (k : Int))).c, l3⟩ : Rb)).length = rows.length := by rw [List.length_set]; exact hrl
        have hz20 := ho16.size
        replace hbx := hbx.out ho16 (by first | omega | (simp only [blk_some, hi1_some] at *; omega))
        replace hE := hE.step ho16 (by first | omega | (simp only [blk_some, hi1_some] at *; omega))
        replace hlp0 := hlp0.step ho16 (by first | omega | (simp only [blk_some, hi1_some] at *; omega))
        replace hlp1 := hlp1.step ho16 (by first | omega | (simp only [blk_some, hi1_some] at *; omega))
        replace hlp2 := hlp2.step ho16 (by first | omega | (simp only [blk_some, hi1_some] at *; omega))
        refine rg_end ?_
        refine n_then ?_
        refine cnd rfl (fun hc3 => ?_) (fun hc3 => ?_)
        ·
          try simp only [decide_eq_true_eq, decide_eq_false_iff_not, Bool.not_eq_true', Bool.not_eq_false', Bool.and_eq_true, Bool.or_eq_true, Bool.or_eq_false_iff, Bool.cond_true_right, Bool.cond_false_right, Bool.cond_true_left, Bool.cond_false_left, ne_eq, Decidable.not_not, bne_iff_ne, beq_iff_eq, beq_eq_false_iff_ne, Bool.not_true, Bool.not_false] at hc3
          have hbc3 : true = true → totB (rows2.set ((i : Int) * (N.evs.length : Int) + (k : Int)).toNat (⟨(el rows2 ((i : Int) * (N.evs.length : Int) + (k : Int))).a, (el rows2 ((i : Int) * (N.evs.length : Int) + (k : Int))).c, l3⟩ : Rb)) < totB rows := fun _ => by have := hb3 hc3; omega
          refine rg ?_
          refine st (asB rfl) ?_
          refine rg_end ?_
          refine n_blk ?_
          refine n_then ?_
          refine rg ?_
          refine st (mvI rfl) ?_
          refine st (y_add rfl rfl (by omega)) ?_
          refine st (asI rfl) ?_
          refine rg_end ?_
          exact n_then ⟨(k + 1, _, _), _, rfl, same_lk rfl (same_h0), ⟨rfl, rfl, trivial⟩, ⟨hlp2, by omega, hrl3, hT, hst3, hbc3, by omega⟩, by first | omega | (dsimp only; omega)⟩
        ·
          try simp only [decide_eq_true_eq, decide_eq_false_iff_not, Bool.not_eq_true', Bool.not_eq_false', Bool.and_eq_true, Bool.or_eq_true, Bool.or_eq_false_iff, Bool.cond_true_right, Bool.cond_false_right, Bool.cond_true_left, Bool.cond_false_left, ne_eq, Decidable.not_not, bne_iff_ne, beq_iff_eq, beq_eq_false_iff_ne, Bool.not_true, Bool.not_false] at hc3
          have hbc3 : b = true → totB (rows2.set ((i : Int) * (N.evs.length : Int) + (k : Int)).toNat (⟨(el rows2 ((i : Int) * (N.evs.length : Int) + (k : Int))).a, (el rows2 ((i : Int) * (N.evs.length : Int) + (k : Int))).c, l3⟩ : Rb)) < totB rows := fun h => by have := hbc h; omega
          refine wp_skip ?_
          refine n_blk ?_
          refine n_then ?_
          refine rg ?_
          refine st (mvI rfl) ?_
          refine st (y_add rfl rfl (by omega)) ?_
          refine st (asI rfl) ?_
          refine rg_end ?_
          exact n_then ⟨(k + 1, _, _), _, rfl, same_lk rfl (same_h0), ⟨rfl, rfl, trivial⟩, ⟨hlp2, by omega, hrl3, hT, hst3, hbc3, by omega⟩, by first | omega | (dsimp only; omega)⟩
      ·
        try simp only [decide_eq_true_eq, decide_eq_false_iff_not, Bool.not_eq_true', Bool.not_eq_false', Bool.and_eq_true, Bool.or_eq_true, Bool.or_eq_false_iff, Bool.cond_true_right, Bool.cond_false_right, Bool.cond_true_left, Bool.cond_false_left, ne_eq, Decidable.not_not, bne_iff_ne, beq_iff_eq, beq_eq_false_iff_ne, Bool.not_true, Bool.not_false] at hc2
        refine wp_exit ?_
        refine e_then (e_then (e_blk (?_)))
        refine n_blk ?_
        refine n_then ?_
        refine rg ?_
        refine st (mvI rfl) ?_
        refine st (y_add rfl rfl (by omega)) ?_
        refine st (asI rfl) ?_
        refine rg_end ?_
        exact n_then ⟨(j + 1, _, _), _, rfl, same_lk rfl (same_hav rfl (same_lk rfl (same_h0))), ⟨rfl, rfl, trivial⟩, ⟨hlp1, by omega, hrl, hT, hst2, hbc, hcl⟩, by first | omega | (dsimp only; omega)⟩
    ·
      try simp only [decide_eq_true_eq, decide_eq_false_iff_not, Bool.not_eq_true', Bool.not_eq_false', Bool.and_eq_true, Bool.or_eq_true, Bool.or_eq_false_iff, Bool.cond_true_right, Bool.cond_false_right, Bool.cond_true_left, Bool.cond_false_left, ne_eq, Decidable.not_not, bne_iff_ne, beq_iff_eq, beq_eq_false_iff_ne, Bool.not_true, Bool.not_false] at hc1
      refine wp_exit ?_
      refine e_then (e_then (e_blk (?_)))
      refine n_blk ?_
      refine n_then ?_
      refine rg ?_
      refine st (mvI rfl) ?_
      refine st (y_add rfl rfl (by omega)) ?_
      refine st (asI rfl) ?_
      refine rg_end ?_
      exact n_then ⟨(i + 1, _, _), _, rfl, same_lk rfl (same_hav rfl (same_lk rfl (same_h0))), ⟨rfl, rfl, trivial⟩, ⟨hlp0, by omega, hrl, hT, hst2, hbc, hcl⟩, by first | omega | (dsimp only; omega)⟩
  ·
    try simp only [decide_eq_true_eq, decide_eq_false_iff_not, Bool.not_eq_true', Bool.not_eq_false', Bool.and_eq_true, Bool.or_eq_true, Bool.or_eq_false_iff, Bool.cond_true_right, Bool.cond_false_right, Bool.cond_true_left, Bool.cond_false_left, ne_eq, Decidable.not_not, bne_iff_ne, beq_iff_eq, beq_eq_false_iff_ne, Bool.not_true, Bool.not_false] at hc0
    refine wp_exit ?_
    refine e_then (e_then (e_blk (?_)))
    refine n_then ?_
    refine wp_seq ?_
    refine rg ?_
    refine st (mvB rfl) ?_
    refine st (asB rfl) ?_
    refine rg_end ?_
    refine n_then ?_
    refine wp_ret ?_
    refine ret1 (v := (.bool _)) Try.results39 rfl ?_
    exact ⟨b, rows2, rfl, hT, hrl, hst2, hbc, hE⟩
end Go.Proofs.Ytdbiapbdmmkfjaa
