/-
  Walks of the functions, printed by a program out of the code and the loops' relations.
-/
import Derived.Test.YtdbiapbdmmkfjaaWkH
import Derived.Test.YtdbiapbdmmkfjaaProg
import Derived.KernelRfl
import Derived.Test.YtdbiapbdmmkfjaaG4
namespace Go.Proofs.Ytdbiapbdmmkfjaa
open Go.Wk Go.RowKit
set_option linter.unusedVariables false
set_option linter.unusedSimpArgs false
theorem cl14 : Callable Try.prog 14 := ⟨Try.call14⟩
theorem cl16 : Callable Try.prog 16 := ⟨Try.call16⟩
theorem cl17 : Callable Try.prog 17 := ⟨Try.call17⟩
theorem cl40 : Callable Try.prog 40 := ⟨Try.call40⟩
theorem ptr31 : Try.prog.underlying 31 = some (.pointer (Try.prog.pointee 31)) := by kernel_rfl

theorem cnt_tk {l : List Bool} {k : Nat} (hk : (k : Int) < l.length) : (l.take (k + 1)).count true = (l.take k).count true + (if el l (k : Int) = true then 1 else 0) := by
  rw [tkS hk, List.count_append]
  cases el l (k : Int) <;> simp
theorem cnt_pos {l : List Bool} {d : Int} (h0 : 0 ≤ d) (h1 : d < l.length) (h : el l d = true) : 0 < l.count true :=
  List.count_pos_iff.2 (by rw [← h]; exact el_mem h0 h1)
theorem small_fea {N : Net} (h : SmallNet N) (e : findE N false 1048576 = 0) : feas N (findT N false 1048576) = true := by
  rcases small_first h with k | k
  · omega
  · exact k.2.1.feas h.1

set_option maxRecDepth 100000 in
theorem ref13_size_ok (al : Option Addr) (cl : Nat) (l : List Bool) (lo hi : Nat) (w : World) (hL : Sl encB 1 lo hi w al l) (hn : (l.length : Int) ≤ 1000000) : Cal Try.prog 40 [.slice al l.length cl] w (fun v w' => v = .int .i64 ((l.count true : Nat) : Int) ∧ Ext w w') := by
  replace hL := Sl.full (fun _ => by simp [encB]) hL
  have hE : Out 0 0 w w := Out.refl _ _ w
  refine enter Try.func40 rfl Try.ntmps40 rfl ?_
  refine wp_seq ?_
  refine rg ?_
  refine st (asI rfl) ?_
  refine rg_end ?_
  refine n_then ?_
  refine wp_seq ?_
  refine rg ?_
  refine st (asI rfl) ?_
  refine rg_end ?_
  refine n_then ?_
  refine wp_seq ?_
  refine wp_seq ?_
  refine rg ?_
  refine st (mvS rfl) ?_
  refine st (y_len Try.underlying68 rfl) ?_
  refine st (mvI rfl) ?_
  refine rg_end ?_
  refine n_then ?_
  refine wp_block ?_
  refine lp (γ := Nat) [3, 4, 7, 8, 9, 10, 11, 12, 13, 14, 15, 16] (fun k => [(7, .int .i64 (k : Int)), (3, .int .i64 (((l.take k).count true : Nat) : Int))]) (fun k w_ => Ext w w_ ∧ (k : Int) ≤ l.length) (fun k => l.length - k) 0 ⟨rfl, rfl, trivial⟩ ⟨Out.refl _ _ _, by omega⟩ ?_
  rintro k hav_ w1 ⟨ho2, hk⟩
  have hlp0 := ho2
  have hz3 := ho2.size
  replace hL := hL.ext ho2
  replace hE := hE.step ho2 (.inl (Nat.le_refl _))
  refine wp_seq ?_
  refine rg ?_
  refine st (y_lss rfl rfl) ?_
  refine rg_end ?_
  refine n_then ?_
  refine wp_seq ?_
  refine cnd rfl (fun hc0 => ?_) (fun hc0 => ?_)
  ·
    try simp only [decide_eq_true_eq, decide_eq_false_iff_not, Bool.not_eq_true', Bool.not_eq_false', Bool.and_eq_true, Bool.or_eq_true, Bool.or_eq_false_iff, Bool.cond_true_right, Bool.cond_false_right, Bool.cond_true_left, Bool.cond_false_left, ne_eq, Decidable.not_not, bne_iff_ne, beq_iff_eq, beq_eq_false_iff_ne, Bool.not_true, Bool.not_false] at hc0
    have hct := cnt_tk (l := l) (k := k) hc0
    have hcl : (l.take k).count true ≤ (l.take k).length := List.count_le_length
    rw [List.length_take] at hcl
    refine wp_skip ?_
    refine n_then ?_
    refine wp_seq ?_
    refine wp_block ?_
    refine wp_seq ?_
    refine rg ?_
    refine st (mvI rfl) ?_
    refine st (asI rfl) ?_
    refine rg_end ?_
    refine n_then ?_
    refine wp_seq ?_
    refine rg ?_
    refine st (mvS rfl) ?_
    refine st (mvI rfl) ?_
    refine st (y_ix hL sl68 rfl (rfl) rfl (by omega) (by omega)) ?_
    refine st (y_le hL na4 rfl (by omega) (by omega) rfl) ?_
    refine rg_end ?_
    refine n_then ?_
    refine cnd rfl (fun hc1 => ?_) (fun hc1 => ?_)
    ·
      try simp only [decide_eq_true_eq, decide_eq_false_iff_not, Bool.not_eq_true', Bool.not_eq_false', Bool.and_eq_true, Bool.or_eq_true, Bool.or_eq_false_iff, Bool.cond_true_right, Bool.cond_false_right, Bool.cond_true_left, Bool.cond_false_left, ne_eq, Decidable.not_not, bne_iff_ne, beq_iff_eq, beq_eq_false_iff_ne, Bool.not_true, Bool.not_false] at hc1
      rw [if_pos hc1] at hct
      refine rg ?_
      refine st (mvI rfl) ?_
      refine st (y_add rfl rfl (by omega)) ?_
      refine st (asI rfl) ?_
      refine rg_end ?_
      refine n_blk ?_
      refine n_then ?_
      refine rg ?_
      refine st (y_add rfl rfl (by omega)) ?_
      refine st (mvI rfl) ?_
      refine rg_end ?_
      exact n_then ⟨k + 1, _, rfl, same_lk rfl (same_h0), ⟨rfl, vi (by omega), trivial⟩, ⟨hlp0, by omega⟩, by first | omega | (dsimp only; omega)⟩
    ·
      try simp only [decide_eq_true_eq, decide_eq_false_iff_not, Bool.not_eq_true', Bool.not_eq_false', Bool.and_eq_true, Bool.or_eq_true, Bool.or_eq_false_iff, Bool.cond_true_right, Bool.cond_false_right, Bool.cond_true_left, Bool.cond_false_left, ne_eq, Decidable.not_not, bne_iff_ne, beq_iff_eq, beq_eq_false_iff_ne, Bool.not_true, Bool.not_false] at hc1
      rw [if_neg (by rw [hc1]; decide)] at hct
      refine wp_skip ?_
      refine n_blk ?_
      refine n_then ?_
      refine rg ?_
      refine st (y_add rfl rfl (by omega)) ?_
      refine st (mvI rfl) ?_
      refine rg_end ?_
      exact n_then ⟨k + 1, _, rfl, same_lk rfl (same_h0), ⟨rfl, vi (by omega), trivial⟩, ⟨hlp0, by omega⟩, by first | omega | (dsimp only; omega)⟩
  ·
    try simp only [decide_eq_true_eq, decide_eq_false_iff_not, Bool.not_eq_true', Bool.not_eq_false', Bool.and_eq_true, Bool.or_eq_true, Bool.or_eq_false_iff, Bool.cond_true_right, Bool.cond_false_right, Bool.cond_true_left, Bool.cond_false_left, ne_eq, Decidable.not_not, bne_iff_ne, beq_iff_eq, beq_eq_false_iff_ne, Bool.not_true, Bool.not_false] at hc0
    have hfull : l.take k = l := List.take_of_length_le (by omega)
    refine wp_exit ?_
    refine e_then (e_then (e_blk (?_)))
    refine n_then ?_
    refine wp_seq ?_
    refine rg ?_
    refine st (mvI rfl) ?_
    refine st (asI rfl) ?_
    refine rg_end ?_
    refine n_then ?_
    refine wp_ret ?_
    refine ret1 (v := (.int .i64 _)) Try.results40 rfl ?_
    exact ⟨by rw [hfull], hE⟩

set_option maxRecDepth 100000 in
theorem ref13_Empty_ok (N : Net) (A : NetA) (bx z hi : Nat) (aw : Option Addr) (cw : Nat) (rows : List Rb) (fb : Prop) (r : Int → Int) (w : World) (hbx : Blk w bx [.int .i64 N.p, .slice A.ae N.evs.length A.ce, .slice A.aa N.acts.length A.ca, .slice aw rows.length cw]) (hT : Tab z hi w aw cw N.p rows) (hok : NetOk N) (hlen : (rows.length : Int) = (N.evs.length : Int) * (N.evs.length : Int)) (hst : Stay fb r rows) (hres : ResOk N fb r) (hfb : fb)  : Cal Try.prog 16 [.pointer (some ⟨bx, 0, none⟩)] w (fun v w' => v = .bool false ∧ Ext w w') := by
  have hev := hok.ev
  have hp7 := hok.p7
  have hp2 := hok.p2
  have hTb := Ow.sl hT.tb
  have hmm : (N.evs.length : Int) * (N.evs.length : Int) ≤ 48 * 48 := Int.mul_le_mul (by omega) (by omega) (by omega) (by omega)
  have hE : Out 0 0 w w := Out.refl _ _ w
  refine enter Try.func16 rfl Try.ntmps16 rfl ?_
  refine wp_seq ?_
  refine rg ?_
  refine st (asB rfl) ?_
  refine rg_end ?_
  refine n_then ?_
  refine wp_seq ?_
  refine wp_seq ?_
  refine rg ?_
  refine st (mvP rfl) ?_
  refine st (y_nil rfl) ?_
  refine st (y_fld fld67_1 rfl) ?_
  refine st (y_lb hbx na65 rfl rfl) ?_
  refine st (y_len Try.underlying65 rfl) ?_
  refine st (mvI rfl) ?_
  refine rg_end ?_
  refine n_then ?_
  refine wp_block ?_
  refine lp (γ := Nat) [2, 3, 9, 10, 11, 12, 13, 14, 15, 16, 17, 18, 19, 20, 21] (fun k => [(9, .int .i64 (k : Int))]) (fun k w_ => Ext w w_ ∧ (k : Int) ≤ rows.length) (fun k => rows.length - k) 0 ⟨rfl, trivial⟩ ⟨Out.refl _ _ _, by omega⟩ ?_
  rintro k hav_ w1 ⟨ho2, hk⟩
  have hlp0 := ho2
  have hz3 := ho2.size
  replace hbx := hbx.ext ho2
  replace hT := hT.ext ho2
  replace hTb := hTb.ext ho2
  replace hE := hE.step ho2 (.inl (Nat.le_refl _))
  refine wp_seq ?_
  refine rg ?_
  refine st (y_lss rfl rfl) ?_
  refine rg_end ?_
  refine n_then ?_
  refine wp_seq ?_
  refine cnd rfl (fun hc0 => ?_) (fun hc0 => ?_)
  ·
    try simp only [decide_eq_true_eq, decide_eq_false_iff_not, Bool.not_eq_true', Bool.not_eq_false', Bool.and_eq_true, Bool.or_eq_true, Bool.or_eq_false_iff, Bool.cond_true_right, Bool.cond_false_right, Bool.cond_true_left, Bool.cond_false_left, ne_eq, Decidable.not_not, bne_iff_ne, beq_iff_eq, beq_eq_false_iff_ne, Bool.not_true, Bool.not_false] at hc0
    have hrw := Ow.sl (hT.rs.row (k : Int) (by omega) hc0)
    have hln := hT.ln (k : Int) (by omega) hc0
    have hrr := hres.rng (k : Int)
    have hps := cnt_pos hrr.1 (by omega) (hst hfb (k : Int) (by omega) hc0)
    have hne : ¬ (((el rows (k : Int)).l.count true : Nat) : Int) = 0 := by omega
    refine wp_skip ?_
    refine n_then ?_
    refine wp_seq ?_
    refine wp_block ?_
    refine wp_seq ?_
    refine rg ?_
    refine st (mvI rfl) ?_
    refine st (asI rfl) ?_
    refine rg_end ?_
    refine n_then ?_
    refine wp_seq ?_
    refine rg ?_
    refine st (mvP rfl) ?_
    refine st (y_nil rfl) ?_
    refine st (y_fld fld67_1 rfl) ?_
    refine st (y_lb hbx na65 rfl rfl) ?_
    refine st (mvI rfl) ?_
    refine st (y_ix hTb sl65 rfl (rfl) rfl (by omega) (by omega)) ?_
    refine st (y_le hTb na68 rfl (by omega) (by omega) rfl) ?_
    refine sc cl40 (ref13_size_ok _ _ (el rows (k : Int)).l _ _ _ hrw (by omega)) rfl ?_
    rintro v8 w4 ⟨rfl, ho5⟩
    have hz9 := ho5.size
    replace hbx := hbx.ext ho5
    replace hT := hT.ext ho5
    replace hTb := hTb.ext ho5
    replace hE := hE.step ho5 (.inl (Nat.le_refl _))
    replace hlp0 := hlp0.step ho5 (.inl (Nat.le_refl _))
    replace hrw := hrw.ext ho5
    refine st (y_eql rfl rfl) ?_
    refine rg_end ?_
    refine n_then ?_
    refine cnd rfl (fun hc1 => absurd ((decide_eq_false hne).symm.trans hc1) (by decide)) (fun hc1 => ?_)
    refine wp_skip ?_
    refine n_blk ?_
    refine n_then ?_
    refine rg ?_
    refine st (y_add rfl rfl (by omega)) ?_
    refine st (mvI rfl) ?_
    refine rg_end ?_
    exact n_then ⟨k + 1, _, rfl, same_lk rfl (same_h0), ⟨rfl, trivial⟩, ⟨hlp0, by omega⟩, by first | omega | (dsimp only; omega)⟩
  ·
    try simp only [decide_eq_true_eq, decide_eq_false_iff_not, Bool.not_eq_true', Bool.not_eq_false', Bool.and_eq_true, Bool.or_eq_true, Bool.or_eq_false_iff, Bool.cond_true_right, Bool.cond_false_right, Bool.cond_true_left, Bool.cond_false_left, ne_eq, Decidable.not_not, bne_iff_ne, beq_iff_eq, beq_eq_false_iff_ne, Bool.not_true, Bool.not_false] at hc0
    refine wp_exit ?_
    refine e_then (e_then (e_blk (?_)))
    refine n_then ?_
    refine wp_seq ?_
    refine rg ?_
    refine st (asB rfl) ?_
    refine rg_end ?_
    refine n_then ?_
    refine wp_ret ?_
    refine ret1 (v := (.bool _)) Try.results16 rfl ?_
    exact ⟨rfl, hE⟩

set_option maxRecDepth 100000 in
theorem ref13_Allows_ok (N : Net) (A : NetA) (bx z hi : Nat) (aw : Option Addr) (cw : Nat) (rows : List Rb) (fb : Prop) (lo hi2 : Nat) (x : List Int) (ax : Option Addr) (cx lx hx : Nat) (w : World) (hbx : Blk w bx [.int .i64 N.p, .slice A.ae N.evs.length A.ce, .slice A.aa N.acts.length A.ca, .slice aw rows.length cw]) (hT : Tab z hi w aw cw N.p rows) (hok : NetOk N) (hlen : (rows.length : Int) = (N.evs.length : Int) * (N.evs.length : Int)) (hst : Stay fb (resX N x) rows) (hfb : fb) (hN : NetIn lo hi2 w N A) (hX : Ints lx hx w ax x) (hg : GoodT N x) : Cal Try.prog 17 [.pointer (some ⟨bx, 0, none⟩), .slice ax x.length cx] w (fun v w' => v = .bool true ∧ Ext w w') := by
  have hev := hok.ev
  have hp7 := hok.p7
  have hp2 := hok.p2
  have hTb := Ow.sl hT.tb
  have hxl := hg.len
  have hgt := goodT_iff.2 hg
  have hE : Out 0 0 w w := Out.refl _ _ w
  refine enter Try.func17 rfl Try.ntmps17 rfl ?_
  refine wp_seq ?_
  refine rg ?_
  refine st (asB rfl) ?_
  refine rg_end ?_
  refine n_then ?_
  refine wp_seq ?_
  refine wp_seq ?_
  refine rg ?_
  refine st (mvP rfl) ?_
  refine st (y_nil rfl) ?_
  refine st (y_fld fld67_0 rfl) ?_
  refine st (y_lbS (ds := [_, _, _]) hbx agg26 rfl pre3) ?_
  refine st (mvS rfl) ?_
  refine sc cl41 (ref11_Good_ok N A _ _ x _ _ _ _ _ hN hX) rfl ?_
  rintro v5 w1 ⟨rfl, ho2⟩
  have hz6 := ho2.size
  replace hbx := hbx.ext ho2
  replace hT := hT.ext ho2
  replace hTb := hTb.ext ho2
  replace hN := hN.ext ho2
  replace hX := hX.ext ho2
  replace hE := hE.step ho2 (.inl (Nat.le_refl _))
  refine st (y_not rfl) ?_
  refine rg_end ?_
  refine n_then ?_
  refine cnd rfl (fun hc0 => absurd ((congrArg Bool.not hgt).symm.trans hc0) (by decide)) (fun hc0 => ?_)
  refine wp_skip ?_
  refine n_then ?_
  refine wp_seq ?_
  refine rg ?_
  refine st (mvS rfl) ?_
  refine st (y_len Try.underlying22 rfl) ?_
  refine st (asI rfl) ?_
  rw [hxl]
  refine rg_end ?_
  refine n_then ?_
  refine wp_seq ?_
  refine wp_seq ?_
  refine rg ?_
  refine st (asI rfl) ?_
  refine rg_end ?_
  refine n_then ?_
  refine wp_block ?_
  refine lp (γ := Nat) [4, 6, 7, 17, 18, 19, 20, 21, 22, 23, 24, 25, 26, 27, 28, 29, 30, 31, 32, 33, 34, 35, 36, 37, 38, 39, 40, 41, 42, 43, 44, 45, 46, 47, 48, 49, 50, 51, 52, 53, 54, 55] (fun i => [(6, .int .i64 (i : Int))]) (fun i w_ => Ext w1 w_ ∧ (i : Int) ≤ (N.evs.length : Int)) (fun i => N.evs.length - i) 0 ⟨rfl, trivial⟩ ⟨Out.refl _ _ _, by omega⟩ ?_
  rintro i hav_ w7 ⟨ho8, hi_⟩
  have hlp0 := ho8
  have hz9 := ho8.size
  replace hbx := hbx.ext ho8
  replace hT := hT.ext ho8
  replace hTb := hTb.ext ho8
  replace hN := hN.ext ho8
  replace hX := hX.ext ho8
  replace hE := hE.step ho8 (.inl (Nat.le_refl _))
  refine wp_seq ?_
  refine wp_seq ?_
  refine rg ?_
  refine st (mvI rfl) ?_
  refine st (mvI rfl) ?_
  refine st (y_lss rfl rfl) ?_
  refine rg_end ?_
  refine n_then ?_
  refine cnd rfl (fun hc1 => ?_) (fun hc1 => ?_)
  ·
    try simp only [decide_eq_true_eq, decide_eq_false_iff_not, Bool.not_eq_true', Bool.not_eq_false', Bool.and_eq_true, Bool.or_eq_true, Bool.or_eq_false_iff, Bool.cond_true_right, Bool.cond_false_right, Bool.cond_true_left, Bool.cond_false_left, ne_eq, Decidable.not_not, bne_iff_ne, beq_iff_eq, beq_eq_false_iff_ne, Bool.not_true, Bool.not_false] at hc1
    refine wp_skip ?_
    refine n_then ?_
    refine wp_seq ?_
    refine wp_block ?_
    refine wp_seq ?_
    refine rg ?_
    refine st (asI rfl) ?_
    refine rg_end ?_
    refine n_then ?_
    refine wp_block ?_
    refine lp (γ := Nat) [4, 7, 22, 23, 24, 25, 26, 27, 28, 29, 30, 31, 32, 33, 34, 35, 36, 37, 38, 39, 40, 41, 42, 43, 44, 45, 46, 47, 48, 49, 50, 51, 52, 53, 54, 55] (fun j => [(7, .int .i64 (j : Int))]) (fun j w_ => Ext w7 w_ ∧ (j : Int) ≤ (N.evs.length : Int)) (fun j => N.evs.length - j) 0 ⟨rfl, trivial⟩ ⟨Out.refl _ _ _, by omega⟩ ?_
    rintro j hav_ w10 ⟨ho11, hj_⟩
    have hlp1 := ho11
    have hz12 := ho11.size
    replace hbx := hbx.ext ho11
    replace hT := hT.ext ho11
    replace hTb := hTb.ext ho11
    replace hN := hN.ext ho11
    replace hX := hX.ext ho11
    replace hE := hE.step ho11 (.inl (Nat.le_refl _))
    replace hlp0 := hlp0.step ho11 (.inl (Nat.le_refl _))
    refine wp_seq ?_
    refine wp_seq ?_
    refine rg ?_
    refine st (mvI rfl) ?_
    refine st (mvI rfl) ?_
    refine st (y_lss rfl rfl) ?_
    refine rg_end ?_
    refine n_then ?_
    refine cnd rfl (fun hc2 => ?_) (fun hc2 => ?_)
    ·
      try simp only [decide_eq_true_eq, decide_eq_false_iff_not, Bool.not_eq_true', Bool.not_eq_false', Bool.and_eq_true, Bool.or_eq_true, Bool.or_eq_false_iff, Bool.cond_true_right, Bool.cond_false_right, Bool.cond_true_left, Bool.cond_false_left, ne_eq, Decidable.not_not, bne_iff_ne, beq_iff_eq, beq_eq_false_iff_ne, Bool.not_true, Bool.not_false] at hc2
      have ij := idx_rng (m := (N.evs.length : Int)) (i := (i : Int)) (k := (j : Int)) (by omega) (by omega) (by omega) (by omega) (by omega)
      have hrw := Ow.sl (hT.rs.row ((i : Int) * (N.evs.length : Int) + (j : Int)) (by omega) (by omega))
      have hln := hT.ln ((i : Int) * (N.evs.length : Int) + (j : Int)) (by omega) (by omega)
      have hv := hst hfb ((i : Int) * (N.evs.length : Int) + (j : Int)) (by omega) (by omega)
      rw [resX_at (by omega) (by omega) (by omega)] at hv
      have b1 := hg.rng _ (el_mem (l := x) (i := (j : Int)) (by omega) (by omega))
      have b2 := hg.rng _ (el_mem (l := x) (i := (i : Int)) (by omega) (by omega))
      have n1 := Int.emod_nonneg (el x (j : Int) - el x (i : Int)) (b := N.p) (by omega)
      have n2 := Int.emod_lt_of_pos (el x (j : Int) - el x (i : Int)) (b := N.p) (by omega)
      refine wp_skip ?_
      refine n_then ?_
      refine wp_seq ?_
      refine wp_block ?_
      refine wp_seq ?_
      refine rgD 26 (fun w_ => Ext w10 w_) (fun i => Nat.beq i 25) mixed (by kernel_rfl) ?_
      intro w13 ho14 hs15
      refine ⟨ho14, ?_⟩
      have hx16 := ho14
      refine tn rfl (fun _ hG => mvP rfl) ?_
      refine tn rfl (fun _ hG => y_nil rfl) ?_
      refine tn rfl (fun _ hG => y_fld fld67_1 rfl) ?_
      refine tn rfl (fun _ hG => y_lb (hbx.ext hG) na65 rfl rfl) ?_
      refine tn rfl (fun _ hG => mvI rfl) ?_
      refine tn rfl (fun _ hG => mvI rfl) ?_
      refine tn rfl (fun _ hG => y_mul rfl rfl (by omega)) ?_
      refine tn rfl (fun _ hG => mvI rfl) ?_
      refine tn rfl (fun _ hG => y_add rfl rfl (by omega)) ?_
      refine tn rfl (fun _ hG => y_ix (hTb.ext hG) sl65 rfl (rfl) rfl (by omega) (by omega)) ?_
      refine tn rfl (fun _ hG => y_le (hTb.ext hG) na68 rfl (by omega) (by omega) rfl) ?_
      refine tn rfl (fun _ hG => mvS rfl) ?_
      refine tn rfl (fun _ hG => mvI rfl) ?_
      refine tn rfl (fun _ hG => y_ix (hX.ext hG) sl22 rfl (hxl.symm) rfl (by omega) (by omega)) ?_
      refine tn rfl (fun _ hG => y_le (hX.ext hG) na3 rfl (by omega) (by omega) rfl) ?_
      refine tn rfl (fun _ hG => mvS rfl) ?_
      refine tn rfl (fun _ hG => mvI rfl) ?_
      refine tn rfl (fun _ hG => y_ix (hX.ext hG) sl22 rfl (hxl.symm) rfl (by omega) (by omega)) ?_
      refine tn rfl (fun _ hG => y_le (hX.ext hG) na3 rfl (by omega) (by omega) rfl) ?_
      refine tn rfl (fun _ hG => y_sub rfl rfl (by omega)) ?_
      refine tn rfl (fun _ hG => mvP rfl) ?_
      refine tn rfl (fun _ hG => y_nil rfl) ?_
      refine tn rfl (fun _ hG => y_fld fld67_0 rfl) ?_
      refine tn rfl (fun _ hG => y_fld fld26_0 rfl) ?_
      refine tn rfl (fun _ hG => y_lb (hbx.ext hG) na3 rfl rfl) ?_
      refine tc rfl cl38 (ref1_Mod_ok _ _ _ (by omega) (by omega) (by omega)) rfl ?_
      rintro v21 w17 ⟨rfl, ho18⟩
      have hx22 := hx16.step ho18 (.inl (Nat.le_refl _))
      have hz23 := ho18.size
      refine ⟨hx22, ?_⟩
      refine t_end ?_
      have hz24 := hx22.size
      replace hbx := hbx.ext hx22
      replace hT := hT.ext hx22
      replace hTb := hTb.ext hx22
      replace hN := hN.ext hx22
      replace hX := hX.ext hx22
      replace hE := hE.step hx22 (.inl (Nat.le_refl _))
      replace hlp0 := hlp0.step hx22 (.inl (Nat.le_refl _))
      replace hlp1 := hlp1.step hx22 (.inl (Nat.le_refl _))
      replace hrw := hrw.ext hx22
      refine st (y_ix hrw sl68 rfl (rfl) rfl (by omega) (by omega)) ?_
      refine st (y_le hrw na4 rfl (by omega) (by omega) rfl) ?_
      refine st (y_not rfl) ?_
      refine rg_end ?_
      refine n_then ?_
      refine cnd rfl (fun hc3 => absurd ((congrArg Bool.not hv).symm.trans hc3) (by decide)) (fun hc3 => ?_)
      refine wp_skip ?_
      refine n_blk ?_
      refine n_then ?_
      refine rg ?_
      refine st (mvI rfl) ?_
      refine st (y_add rfl rfl (by omega)) ?_
      refine st (asI rfl) ?_
      refine rg_end ?_
      exact n_then ⟨j + 1, _, rfl, same_lk rfl (same_h0), ⟨rfl, trivial⟩, ⟨hlp1, by omega⟩, by first | omega | (dsimp only; omega)⟩
    ·
      try simp only [decide_eq_true_eq, decide_eq_false_iff_not, Bool.not_eq_true', Bool.not_eq_false', Bool.and_eq_true, Bool.or_eq_true, Bool.or_eq_false_iff, Bool.cond_true_right, Bool.cond_false_right, Bool.cond_true_left, Bool.cond_false_left, ne_eq, Decidable.not_not, bne_iff_ne, beq_iff_eq, beq_eq_false_iff_ne, Bool.not_true, Bool.not_false] at hc2
      refine wp_exit ?_
      refine e_then (e_then (e_blk (?_)))
      refine n_blk ?_
      refine n_then ?_
      refine rg ?_
      refine st (mvI rfl) ?_
      refine st (y_add rfl rfl (by omega)) ?_
      refine st (asI rfl) ?_
      refine rg_end ?_
      exact n_then ⟨i + 1, _, rfl, same_lk rfl (same_hav rfl (same_lk rfl (same_h0))), ⟨rfl, trivial⟩, ⟨hlp0, by omega⟩, by first | omega | (dsimp only; omega)⟩
  ·
    try simp only [decide_eq_true_eq, decide_eq_false_iff_not, Bool.not_eq_true', Bool.not_eq_false', Bool.and_eq_true, Bool.or_eq_true, Bool.or_eq_false_iff, Bool.cond_true_right, Bool.cond_false_right, Bool.cond_true_left, Bool.cond_false_left, ne_eq, Decidable.not_not, bne_iff_ne, beq_iff_eq, beq_eq_false_iff_ne, Bool.not_true, Bool.not_false] at hc1
    refine wp_exit ?_
    refine e_then (e_then (e_blk (?_)))
    refine n_then ?_
    refine wp_seq ?_
    refine rg ?_
    refine st (asB rfl) ?_
    refine rg_end ?_
    refine n_then ?_
    refine wp_ret ?_
    refine ret1 (v := (.bool _)) Try.results17 rfl ?_
    exact ⟨rfl, hE⟩

set_option maxHeartbeats 1000000 in
set_option maxRecDepth 100000 in
theorem law17_SearchAgreesWithPropagation_ok (a0 : Option Addr) (c0 : Nat) (l0 : List Int) (w : World) (hL0 : Ints 0 w.heap.size w a0 l0) (hl0 : (l0.length : Int) ≤ 9223372036854775807) : Cal Try.prog 3 [.slice a0 l0.length c0] w (fun v w' => v = .bool true ∧ Ext w w') := by
  have hE : Out 0 0 w w := Out.refl _ _ w
  refine enter Try.func3 rfl Try.ntmps3 rfl ?_
  refine wp_seq ?_
  refine rg ?_
  refine st (asB rfl) ?_
  refine rg_end ?_
  refine n_then ?_
  refine wp_seq ?_
  refine rg ?_
  refine st (mvS rfl) ?_
  refine sc cl12 (keep_Network_ok _ _ _ _ _ _ hL0 hl0) rfl ?_
  rintro v5 w1 ⟨N, A, rfl, hsm, hev, hac, hdis, ho2⟩
  have hN : NetIn _ _ _ N A := ⟨Ow.sl hev, Ow.sl hac⟩
  clear hev hac
  have hok := hsm.1
  have hse := small_err hsm false
  have hz6 := ho2.size
  replace hL0 := hL0.ext ho2
  replace hE := hE.step ho2 (.inl (Nat.le_refl _))
  refine sd (d_allocA zer26 ?_)
  intro b3 w7 hbb3 hs9 ho8 hb3
  have hz10 := ho8.size
  replace hL0 := hL0.ext ho8
  replace hE := hE.step ho8 (.inl (Nat.le_refl _))
  replace hN := hN.ext ho8
  refine sd0 (d_stN hb3 rfl rfl sz26 rfl rfl ?_)
  intro w11 hs13 ho12 hb3'
  clear hb3; have hb3 := hb3'; clear hb3'
  have hz14 := ho12.size
  replace hL0 := hL0.out ho12 (by first | omega | (simp only [blk_some, hi1_some] at *; omega))
  replace hE := hE.step ho12 (by first | omega | (simp only [blk_some, hi1_some] at *; omega))
  replace hN := hN.out ho12 (by first | omega | (simp only [blk_some, hi1_some] at *; omega))
  refine rg_end ?_
  refine n_then ?_
  refine wp_seq ?_
  refine rg ?_
  refine st (y_lbN hb3 agg26 rfl) ?_
  refine sc cl13 (search_Feasible_ok N A _ _ 1048576 _ hN) rfl ?_
  rintro v19 w15 ⟨at1, ct1, rfl, hT1, ho16⟩
  have hz20 := ho16.size
  replace hL0 := hL0.ext ho16
  replace hE := hE.step ho16 (.inl (Nat.le_refl _))
  replace hN := hN.ext ho16
  replace hb3 := hb3.ext ho16
  refine st (mvT rfl) ?_
  refine st (y_ext rfl rfl) ?_
  refine st (y_ext rfl rfl) ?_
  refine st (y_ext rfl rfl) ?_
  refine st (asS rfl) ?_
  refine st (asI rfl) ?_
  refine st (asI rfl) ?_
  refine rg_end ?_
  refine n_then ?_
  refine wp_seq ?_
  refine rg ?_
  refine st (y_lbN hb3 agg26 rfl) ?_
  refine sc cl14 (ref13_Close_ok N A _ _ (findE N false 1048576 = 0) (resX N (findT N false 1048576)) _ hN hok (resX_ok hok (fun h => small_fea hsm h))) rfl ?_
  rintro v25 w21 ⟨bx, z, hi_, aw, cw, rows, rfl, hbx, hTt, hlen, hst, hb0, hb1, hb2, ho22⟩
  have hz26 := ho22.size
  replace hL0 := hL0.ext ho22
  replace hE := hE.step ho22 (.inl (Nat.le_refl _))
  replace hN := hN.ext ho22
  replace hb3 := hb3.ext ho22
  replace hT1 := hT1.ext ho22
  refine st (mvT rfl) ?_
  refine st (y_ext rfl rfl) ?_
  refine st (y_ext rfl rfl) ?_
  refine st (asP rfl) ?_
  refine st (asI rfl) ?_
  refine rg_end ?_
  refine n_then ?_
  refine wp_seq ?_
  refine wp_seq ?_
  refine rg ?_
  refine st (mvP rfl) ?_
  refine st (y_nilP ptr31 rfl rfl) ?_
  refine rg_end ?_
  refine n_then ?_
  refine cnd rfl (fun hc0 => absurd ((show (some (⟨bx, 0, none⟩ : Addr)).isNone = false from rfl).symm.trans hc0) (by decide)) (fun hc0 => ?_)
  refine wp_skip ?_
  refine n_then ?_
  refine wp_seq ?_
  refine wp_seq ?_
  refine rg ?_
  refine st (mvI rfl) ?_
  refine st (y_neq rfl rfl) ?_
  refine rg_end ?_
  refine n_then ?_
  refine cnd rfl (fun hc1 => ?_) (fun hc1 => ?_)
  ·
    try simp only [decide_eq_true_eq, decide_eq_false_iff_not, Bool.not_eq_true', Bool.not_eq_false', Bool.and_eq_true, Bool.or_eq_true, Bool.or_eq_false_iff, Bool.cond_true_right, Bool.cond_false_right, Bool.cond_true_left, Bool.cond_false_left, ne_eq, Decidable.not_not, bne_iff_ne, beq_iff_eq, beq_eq_false_iff_ne, Bool.not_true, Bool.not_false] at hc1
    have h14 : findE N false 1048576 = 14 := by omega
    have hz0 : ((findT N false 1048576).length : Int) = 0 := by unfold findT; rw [if_neg hc1]; rfl
    refine wp_seq ?_
    refine rg ?_
    refine sc cl15 (law17_awake_ok _) rfl ?_
    rintro v31 w27 ⟨rfl, ho28⟩
    have hz32 := ho28.size
    replace hL0 := hL0.ext ho28
    replace hE := hE.step ho28 (.inl (Nat.le_refl _))
    replace hN := hN.ext ho28
    replace hb3 := hb3.ext ho28
    replace hT1 := hT1.ext ho28
    replace hbx := hbx.ext ho28
    replace hTt := hTt.ext ho28
    refine st (mvB rfl) ?_
    refine stg rfl rfl rfl (mvI rfl) ?_
    refine stg rfl rfl rfl (y_eql rfl rfl) ?_
    refine st (y_pickT rfl rfl (v := .bool _) rfl) ?_
    refine st (mvB rfl) ?_
    refine stg rfl rfl (decide_eq_true h14) (mvS rfl) ?_
    refine stg rfl rfl (decide_eq_true h14) (y_len Try.underlying22 rfl) ?_
    refine stg rfl rfl (decide_eq_true h14) (y_eql rfl rfl) ?_
    refine st (y_pickT rfl (decide_eq_true h14) (v := .bool _) rfl) ?_
    refine st (asB rfl) ?_
    refine rg_end ?_
    refine n_then ?_
    refine wp_ret ?_
    refine r_then (ret1 (v := (.bool _)) Try.results3 rfl ?_)
    exact ⟨congrArg Value.bool (decide_eq_true hz0), hE⟩
  ·
    try simp only [decide_eq_true_eq, decide_eq_false_iff_not, Bool.not_eq_true', Bool.not_eq_false', Bool.and_eq_true, Bool.or_eq_true, Bool.or_eq_false_iff, Bool.cond_true_right, Bool.cond_false_right, Bool.cond_true_left, Bool.cond_false_left, ne_eq, Decidable.not_not, bne_iff_ne, beq_iff_eq, beq_eq_false_iff_ne, Bool.not_true, Bool.not_false] at hc1
    have hfe := small_fea hsm hc1
    have hg := (feas_iff.1 hfe).1
    refine wp_skip ?_
    refine n_then ?_
    refine wp_seq ?_
    refine rg ?_
    refine sc cl15 (law17_awake_ok _) rfl ?_
    rintro v37 w33 ⟨rfl, ho34⟩
    have hz38 := ho34.size
    replace hL0 := hL0.ext ho34
    replace hE := hE.step ho34 (.inl (Nat.le_refl _))
    replace hN := hN.ext ho34
    replace hb3 := hb3.ext ho34
    replace hT1 := hT1.ext ho34
    replace hbx := hbx.ext ho34
    replace hTt := hTt.ext ho34
    refine st (mvB rfl) ?_
    refine stg rfl rfl rfl (mvP rfl) ?_
    refine scg rfl rfl rfl cl16 (ref13_Empty_ok N A bx z hi_ aw cw rows (findE N false 1048576 = 0) (resX N (findT N false 1048576)) _ hbx hTt hok hlen hst (resX_ok hok (fun h => small_fea hsm h)) hc1) rfl ?_
    rintro v43 w39 ⟨rfl, ho40⟩
    have hz44 := ho40.size
    replace hL0 := hL0.ext ho40
    replace hE := hE.step ho40 (.inl (Nat.le_refl _))
    replace hN := hN.ext ho40
    replace hb3 := hb3.ext ho40
    replace hT1 := hT1.ext ho40
    replace hbx := hbx.ext ho40
    replace hTt := hTt.ext ho40
    refine stg rfl rfl rfl (y_not rfl) ?_
    refine st (y_pickT rfl rfl (v := .bool _) rfl) ?_
    refine st (mvB rfl) ?_
    refine stg rfl rfl rfl (mvP rfl) ?_
    refine stg rfl rfl rfl (mvS rfl) ?_
    refine scg rfl rfl rfl cl17 (ref13_Allows_ok N A bx z hi_ aw cw rows (findE N false 1048576 = 0) _ _ (findT N false 1048576) _ _ _ _ _ hbx hTt hok hlen hst hc1 hN hT1 hg) rfl ?_
    rintro v49 w45 ⟨rfl, ho46⟩
    have hz50 := ho46.size
    replace hL0 := hL0.ext ho46
    replace hE := hE.step ho46 (.inl (Nat.le_refl _))
    replace hN := hN.ext ho46
    replace hb3 := hb3.ext ho46
    replace hT1 := hT1.ext ho46
    replace hbx := hbx.ext ho46
    replace hTt := hTt.ext ho46
    refine st (y_pickT rfl rfl (v := .bool _) rfl) ?_
    refine st (asB rfl) ?_
    refine rg_end ?_
    refine n_then ?_
    refine wp_ret ?_
    refine ret1 (v := (.bool _)) Try.results3 rfl ?_
    exact ⟨rfl, hE⟩
end Go.Proofs.Ytdbiapbdmmkfjaa
