/-
  Walks of the functions, printed by a program out of the code and the loops' relations.
-/
import Derived.Test.YtdbiapbdmmkfjaaWkH
import Derived.Test.YtdbiapbdmmkfjaaProg
import Derived.KernelRfl
import Derived.Test.YtdbiapbdmmkfjaaG3
namespace Go.Proofs.Ytdbiapbdmmkfjaa
open Go.Wk Go.RowKit
set_option linter.unusedVariables false
set_option linter.unusedSimpArgs false
theorem bld67_0 (a0_0 : Int) (d0_1 : Option Addr) (l0_1 : Nat) (c0_1 : Nat) (d0_2 : Option Addr) (l0_2 : Nat) (c0_2 : Nat) (w : World) : (Instr.build 67 [(0, (.agg #[(.int .i64 a0_0), (.slice d0_1 l0_1 c0_1), (.slice d0_2 l0_2 c0_2)]))].toArray).run Try.prog w = .ok (.agg [(.int .i64 a0_0), (.slice d0_1 l0_1 c0_1), (.slice d0_2 l0_2 c0_2), .slice none 0 0].toArray) w := by kernel_rfl
theorem bsl65_1 (d0 : Option Addr) (l0 : Nat) (c0 : Nat) (w : World) : (Instr.buildSlice 65 1 [(0, (.slice d0 l0 c0))].toArray).run Try.prog w = .ok (.slice (some ⟨w.heap.size, 0, none⟩) 1 1) (w.alloc (.cells [(.slice d0 l0 c0)].toArray 68)) := by kernel_rfl
theorem cl39 : Callable Try.prog 39 := ⟨Try.call39⟩
set_option maxRecDepth 100000 in
theorem infoz68 : ∃ i, Try.prog.info? 68 = some i ∧ i.zero = some (.slice none 0 0) ∧ i.size = 1 ∧ i.bytes = 24 ∧ (Value.cells (.slice none 0 0)).size = 1 := ⟨Try.t68, Try.type68, rfl, rfl, rfl, rfl⟩
theorem sz65 : SzOf Try.prog 65 1 := Try.sizeOf65

theorem outT {a b a' b' : Nat} {w w1 w2 : World} (h : Out a b w w1) (k : Out a' b' w1 w2) (h1 : a ≤ a') (h2 : w.heap.size ≤ b) : Out a b w w2 :=
  ⟨k.os.trans h.os, k.tape.trans h.tape, k.output.trans h.output, Nat.le_trans h.size k.size, fun i hi hk => (k.block i (Nat.lt_of_lt_of_le hi h.size) (by omega)).trans (h.block i hi hk)⟩
theorem neg_inj {p a b : Int} (hp : 0 < p) (a0 : 0 ≤ a) (a1 : a < p) (b0 : 0 ≤ b) (b1 : b < p) (h : (-a) % p = (-b) % p) : a = b := by
  have h1 := Int.emod_emod_of_dvd (b - a) (Int.dvd_refl p)
  have h2 : (-a - -b) % p = 0 := Int.emod_eq_emod_iff_emod_sub_eq_zero.1 h
  rw [show -a - -b = b - a by omega] at h2
  obtain ⟨c, hc⟩ := Int.dvd_of_emod_eq_zero h2
  have hc0 : c = 0 := by
    apply Classical.byContradiction; intro hne
    rcases Int.lt_or_gt_of_ne hne with q | q
    · have : p * c ≤ p * (-1) := Int.mul_le_mul_of_nonneg_left (by omega) (by omega)
      omega
    · have : p * 1 ≤ p * c := Int.mul_le_mul_of_nonneg_left (by omega) (by omega)
      omega
  rw [hc0] at hc; omega

set_option maxHeartbeats 8000000 in
set_option maxRecDepth 100000 in
theorem ref13_Close_ok (N : Net) (A : NetA) (lo hi : Nat) (fb : Prop) (r : Int → Int) (w : World) (hN : NetIn lo hi w N A) (hok : NetOk N) (hres : ResOk N fb r) : Cal Try.prog 14 [netV N A] w (fun v w' => ∃ bx z hi aw cw rows, v = .tuple #[.pointer (some ⟨bx, 0, none⟩), .int .i64 0] ∧ Blk w' bx [.int .i64 N.p, .slice A.ae N.evs.length A.ce, .slice A.aa N.acts.length A.ca, .slice aw rows.length cw] ∧ Tab z hi w' aw cw N.p rows ∧ (rows.length : Int) = (N.evs.length : Int) * (N.evs.length : Int) ∧ Stay fb r rows ∧ w.heap.size ≤ bx ∧ bx < z ∧ hi ≤ w'.heap.size ∧ Ext w w') := by
  replace hN := hN.full
  have hev := hok.ev
  have hac := hok.ac
  have hp2 := hok.p2
  have hp7 := hok.p7
  obtain ⟨pn, hpn⟩ := Int.eq_ofNat_of_zero_le (a := N.p) (by omega)
  have hE : Out 0 0 w w := Out.refl _ _ w
  refine enter Try.func14 rfl Try.ntmps14 rfl ?_
  refine wp_seq ?_
  refine rg ?_
  refine sd (d_boxA rfl ?_)
  intro b1 w1 hbb1 hs3 ho2 hb1
  have hz4 := ho2.size
  replace hN := hN.ext ho2
  replace hE := hE.step ho2 (.inl (Nat.le_refl _))
  refine st (asP rfl) ?_
  refine st (asI rfl) ?_
  refine rg_end ?_
  refine n_then ?_
  refine wp_seq ?_
  refine wp_seq ?_
  refine rg ?_
  refine st (y_lbN hb1 agg26 rfl) ?_
  refine sc cl37 (ref11_Check_ok N A _ _ _ hN) rfl ?_
  rintro v9 w5 ⟨rfl, ho6⟩
  have hz10 := ho6.size
  replace hN := hN.ext ho6
  replace hE := hE.step ho6 (.inl (Nat.le_refl _))
  replace hb1 := hb1.ext ho6
  refine st (y_not rfl) ?_
  refine rg_end ?_
  refine n_then ?_
  refine cnd rfl (fun hc0 => absurd ((congrArg Bool.not (netOk_iff.2 hok)).symm.trans hc0) (by decide)) (fun hc0 => ?_)
  refine wp_skip ?_
  refine n_then ?_
  refine wp_seq ?_
  refine rgD 6 (fun w_ => Ext w5 w_) (fun i => false) mixed (by kernel_rfl) ?_
  intro w11 ho12 hs13
  refine ⟨ho12, ?_⟩
  have hx14 := ho12
  refine tn rfl (fun _ hG => y_fld fld26_1 rfl) ?_
  refine tn rfl (fun _ hG => y_lb (hb1.ext hG) na23 rfl rfl) ?_
  refine tn rfl (fun _ hG => y_len Try.underlying23 rfl) ?_
  refine tn rfl (fun _ hG => y_fld fld26_0 rfl) ?_
  refine tn rfl (fun _ hG => y_lb (hb1.ext hG) na3 rfl rfl) ?_
  refine tn rfl (fun _ hG => asI rfl) ?_
  refine t_end ?_
  have hz15 := hx14.size
  replace hN := hN.ext hx14
  replace hE := hE.step hx14 (.inl (Nat.le_refl _))
  replace hb1 := hb1.ext hx14
  refine st (asI rfl) ?_
  refine rg_end ?_
  refine n_then ?_
  refine wp_seq ?_
  refine rg ?_
  refine st (y_lbN hb1 agg26 rfl) ?_
  refine st (y_build (bld67_0 _ _ _ _ _ _ _ _) rfl) ?_
  refine sd (d_boxA rfl ?_)
  intro bx w16 hbbx hs18 ho17 hbx
  have hz19 := ho17.size
  replace hN := hN.ext ho17
  replace hE := hE.step ho17 (.inl (Nat.le_refl _))
  replace hb1 := hb1.ext ho17
  obtain ⟨z, hz⟩ : ∃ z, z = w16.heap.size := ⟨_, rfl⟩
  refine st (asP rfl) ?_
  refine rg_end ?_
  refine n_then ?_
  refine wp_seq ?_
  refine wp_seq ?_
  refine rg ?_
  refine st (asI rfl) ?_
  refine rg_end ?_
  refine n_then ?_
  refine wp_block ?_
  refine lp (γ := Nat × List Rb × Option Addr × Nat) [7, 8, 9, 10, 25, 26, 27, 28, 29, 30, 31, 32, 33, 34, 35, 36, 37, 38, 39, 40, 41, 42, 43, 44, 45, 46, 47, 48, 49, 50, 51, 52, 53, 54, 55, 56, 57, 58, 59, 60, 61] (fun ⟨i, rows, aw, cw⟩ => [(7, .int .i64 (i : Int))]) (fun ⟨i, rows, aw, cw⟩ w_ => Out bx (bx + 1) w16 w_ ∧ (i : Int) ≤ (N.evs.length : Int) ∧ (rows.length : Int) = (i : Int) * (N.evs.length : Int) ∧ Blk w_ bx [.int .i64 N.p, .slice A.ae N.evs.length A.ce, .slice A.aa N.acts.length A.ca, .slice aw rows.length cw] ∧ Ow 68 encRb 1 z w_.heap.size w_ aw cw rows ∧ TabR z w_.heap.size w_ aw N.p rows ∧ Stay fb r rows) (fun ⟨i, rows, aw, cw⟩ => N.evs.length - i) (0, [], none, 0) ⟨rfl, trivial⟩ ⟨Out.refl _ _ _, by omega, by simp, hbx, Ow.nil (fun _ => rfl), TabR.nil, (fun _ e e0 e1 => by simp at e1; omega)⟩ ?_
  rintro ⟨i, rows, aw, cw⟩ hav_ w20 ⟨ho21, hi_, hlen, hbx, hO, hTR, hst⟩
  have hlp0 := ho21
  have hz22 := ho21.size
  replace hN := hN.out ho21 (by first | omega | (simp only [blk_some, hi1_some] at *; omega))
  replace hE := hE.step ho21 (by first | omega | (simp only [blk_some, hi1_some] at *; omega))
  replace hb1 := hb1.out ho21 (by first | omega | (simp only [blk_some, hi1_some] at *; omega))
  refine wp_seq ?_
  refine wp_seq ?_
  refine rg ?_
  refine st (mvI rfl) ?_
  refine st (mvI rfl) ?_
  refine st (y_lss rfl rfl) ?_
  refine rg_end ?_
  refine n_then ?_
  refine cnd rfl (fun hc1 => ?_) (fun hc1 => ?_)
  ·
    try simp only [decide_eq_true_eq, decide_eq_false_iff_not, Bool.not_eq_true', Bool.not_eq_false', Bool.and_eq_true, Bool.or_eq_true, Bool.or_eq_false_iff, Bool.cond_true_right, Bool.cond_false_right, Bool.cond_true_left, Bool.cond_false_left, ne_eq, Decidable.not_not, bne_iff_ne, beq_iff_eq, beq_eq_false_iff_ne, Bool.not_true, Bool.not_false] at hc1
    refine wp_skip ?_
    refine n_then ?_
    refine wp_seq ?_
    refine wp_block ?_
    refine wp_seq ?_
    refine rg ?_
    refine st (asI rfl) ?_
    refine rg_end ?_
    refine n_then ?_
    refine wp_block ?_
    obtain ⟨zj, hzj⟩ : ∃ z, z = w20.heap.size := ⟨_, rfl⟩
    refine lp (γ := Nat × List Rb × Option Addr × Nat) [8, 9, 10, 30, 31, 32, 33, 34, 35, 36, 37, 38, 39, 40, 41, 42, 43, 44, 45, 46, 47, 48, 49, 50, 51, 52, 53, 54, 55, 56, 57, 58, 59, 60, 61] (fun ⟨j, rows, aw, cw⟩ => [(8, .int .i64 (j : Int))]) (fun ⟨j, rows, aw, cw⟩ w_ => Out bx zj w20 w_ ∧ (j : Int) ≤ (N.evs.length : Int) ∧ (rows.length : Int) = (i : Int) * (N.evs.length : Int) + (j : Int) ∧ Blk w_ bx [.int .i64 N.p, .slice A.ae N.evs.length A.ce, .slice A.aa N.acts.length A.ca, .slice aw rows.length cw] ∧ Ow 68 encRb 1 z w_.heap.size w_ aw cw rows ∧ TabR z w_.heap.size w_ aw N.p rows ∧ Stay fb r rows) (fun ⟨j, rows, aw, cw⟩ => N.evs.length - j) (0, rows, aw, cw) ⟨rfl, trivial⟩ ⟨Out.refl _ _ _, by omega, by omega, hbx, hO, hTR, hst⟩ ?_
    rintro ⟨j, rows, aw, cw⟩ hav_ w23 ⟨ho24, hj_, hlen, hbx, hO, hTR, hst⟩
    have hlp1 := ho24
    have hz25 := ho24.size
    replace hN := hN.out ho24 (by first | omega | (simp only [blk_some, hi1_some] at *; omega))
    replace hE := hE.step ho24 (by first | omega | (simp only [blk_some, hi1_some] at *; omega))
    replace hb1 := hb1.out ho24 (by first | omega | (simp only [blk_some, hi1_some] at *; omega))
    replace hlp0 := outT hlp0 ho24 (by omega) (by omega)
    refine wp_seq ?_
    refine wp_seq ?_
    refine rg ?_
    refine st (mvI rfl) ?_
    refine st (mvI rfl) ?_
    refine st (y_lss rfl rfl) ?_
    refine rg_end ?_
    refine n_then ?_
    refine cnd rfl (fun hc2 => ?_) (fun hc2 => ?_)
    ·
      try simp only [decide_eq_true_eq, decide_eq_false_iff_not, Bool.not_eq_true', Bool.not_eq_false', Bool.and_eq_true, Bool.or_eq_true, Bool.or_eq_false_iff, Bool.cond_true_right, Bool.cond_false_right, Bool.cond_true_left, Bool.cond_false_left, ne_eq, Decidable.not_not, bne_iff_ne, beq_iff_eq, beq_eq_false_iff_ne, Bool.not_true, Bool.not_false] at hc2
      have ij := idx_rng (m := (N.evs.length : Int)) (i := (i : Int)) (k := (j : Int)) (by omega) (by omega) (by omega) (by omega) (by omega)
      have hrs := hres.rng ((i : Int) * (N.evs.length : Int) + (j : Int))
      refine wp_skip ?_
      refine n_then ?_
      refine wp_seq ?_
      refine wp_block ?_
      refine wp_seq ?_
      refine rg ?_
      refine st (mvI rfl) ?_
      refine sd (d_make (m := pn) (lo := w23.heap.size) (enc := encB) (e0 := false) sl68 info4 (fun _ => rfl) rfl (congrArg (Value.int .i64) hpn) (congrArg (Value.int .i64) hpn) (by omega) (by unfold maxLen; omega) (by omega) ?_)
      intro bs w26 hbbs hs28 ho27 hs
      have hz30 := ho27.size
      replace hN := hN.ext ho27
      replace hE := hE.step ho27 (.inl (Nat.le_refl _))
      replace hb1 := hb1.ext ho27
      replace hlp0 := hlp0.step ho27 (.inl (Nat.le_refl _))
      replace hbx := hbx.ext ho27
      replace hO := hO.ext ho27
      replace hTR := hTR.ext ho27
      replace hlp1 := hlp1.step ho27 (.inl (Nat.le_refl _))
      refine st (asS rfl) ?_
      refine rg_end ?_
      refine n_then ?_
      refine wp_seq ?_
      refine wp_seq ?_
      refine rg ?_
      refine st (asI rfl) ?_
      refine rg_end ?_
      refine n_then ?_
      refine wp_block ?_
      refine lp (γ := Nat × List Bool) [10, 37, 38, 39, 40, 41, 42, 43, 44, 45, 46, 47, 48, 49, 50, 51] (fun ⟨d, l⟩ => [(10, .int .i64 (d : Int))]) (fun ⟨d, l⟩ w_ => Out bs (bs + 1) w26 w_ ∧ (d : Int) ≤ N.p ∧ l.length = pn ∧ (∀ q : Nat, q < d → ((i : Int) ≠ j ∨ q = 0) → el l (q : Int) = true) ∧ Ow 4 encB 1 bs (bs + 1) w_ (some ⟨bs, 0, none⟩) pn l) (fun ⟨d, l⟩ => pn - d) (0, List.replicate pn false) ⟨rfl, trivial⟩ ⟨Out.refl _ _ _, by omega, by simp, (fun q hq => by omega), hs.lower (by omega)⟩ ?_
      rintro ⟨d, l⟩ hav_ w31 ⟨ho32, hd_, hll, hfl, hs⟩
      have hlp2 := ho32
      have hz33 := ho32.size
      replace hN := hN.out ho32 (by first | omega | (simp only [blk_some, hi1_some] at *; omega))
      replace hE := hE.step ho32 (by first | omega | (simp only [blk_some, hi1_some] at *; omega))
      replace hb1 := hb1.out ho32 (by first | omega | (simp only [blk_some, hi1_some] at *; omega))
      replace hlp0 := hlp0.step ho32 (by first | omega | (simp only [blk_some, hi1_some] at *; omega))
      replace hbx := hbx.out ho32 (by first | omega | (simp only [blk_some, hi1_some] at *; omega))
      have hrnhO := hO.rng
      replace hO := hO.out ho32 (by first | omega | (simp only [blk_some, hi1_some] at *; omega))
      replace hTR := hTR.out ho32 (by first | omega | (simp only [blk_some, hi1_some] at *; omega))
      replace hlp1 := hlp1.step ho32 (by first | omega | (simp only [blk_some, hi1_some] at *; omega))
      refine wp_seq ?_
      refine wp_seq ?_
      refine rg ?_
      refine st (mvI rfl) ?_
      refine st (mvI rfl) ?_
      refine st (y_lss rfl rfl) ?_
      refine rg_end ?_
      refine n_then ?_
      refine cnd rfl (fun hc3 => ?_) (fun hc3 => ?_)
      ·
        try simp only [decide_eq_true_eq, decide_eq_false_iff_not, Bool.not_eq_true', Bool.not_eq_false', Bool.and_eq_true, Bool.or_eq_true, Bool.or_eq_false_iff, Bool.cond_true_right, Bool.cond_false_right, Bool.cond_true_left, Bool.cond_false_left, ne_eq, Decidable.not_not, bne_iff_ne, beq_iff_eq, beq_eq_false_iff_ne, Bool.not_true, Bool.not_false] at hc3
        refine wp_skip ?_
        refine n_then ?_
        refine wp_seq ?_
        refine wp_block ?_
        refine rg ?_
        refine st (mvS rfl) ?_
        refine st (mvI rfl) ?_
        refine st (mvI rfl) ?_
        refine st (mvI rfl) ?_
        refine st (y_neq rfl rfl) ?_
        refine st (mvB rfl) ?_
        refine gspL 47 rfl (fun hg34 => ?_) (fun hg34 => ?_)
        ·
          have hg34n := hg34; try simp only [decide_eq_true_eq, decide_eq_false_iff_not, Bool.not_eq_true', Bool.not_eq_false', Bool.and_eq_true, Bool.or_eq_true, Bool.or_eq_false_iff, Bool.cond_true_right, Bool.cond_false_right, Bool.cond_true_left, Bool.cond_false_left, ne_eq, Decidable.not_not, bne_iff_ne, beq_iff_eq, beq_eq_false_iff_ne, Bool.not_true, Bool.not_false] at hg34n
          have hv1 : ∀ q : Nat, q < d + 1 → ((i : Int) ≠ j ∨ q = 0) → el (l.set (d : Int).toNat true) (q : Int) = true := fun q hq hh => by
            by_cases e : q = d
            · subst e; exact elSetS (by omega) (by omega)
            · rw [elSetN (by omega) (by omega) (by omega)]; exact hfl q (by omega) hh
          refine sts rfl rfl hg34 ?_
          refine sts rfl rfl hg34 ?_
          refine st (y_pickT rfl hg34 (v := .bool _) rfl) ?_
          refine st (y_ix hs.sl sl68 rfl (hll.symm) rfl (by omega) (by omega)) ?_
          refine sd0 (d_se (j := 0)  hs sz4 rfl rfl rfl (by omega) (by omega) (Nat.le_of_ble_eq_true rfl) rfl ?_)
          intro w35 hs37 ho36 hs'
          have hrhs := hs.rng
          clear hs; have hs := hs'; clear hs'
          have hz38 := ho36.size
          replace hN := hN.out ho36 (by first | omega | (simp only [blk_some, hi1_some] at *; omega))
          replace hE := hE.step ho36 (by first | omega | (simp only [blk_some, hi1_some] at *; omega))
          replace hb1 := hb1.out ho36 (by first | omega | (simp only [blk_some, hi1_some] at *; omega))
          replace hlp0 := hlp0.step ho36 (by first | omega | (simp only [blk_some, hi1_some] at *; omega))
          replace hbx := hbx.out ho36 (by first | omega | (simp only [blk_some, hi1_some] at *; omega))
          replace hO := hO.out ho36 (by first | omega | (simp only [blk_some, hi1_some] at *; omega))
          replace hTR := hTR.out ho36 (by first | omega | (simp only [blk_some, hi1_some] at *; omega))
          replace hlp1 := hlp1.step ho36 (by first | omega | (simp only [blk_some, hi1_some] at *; omega))
          replace hlp2 := hlp2.step ho36 (by first | omega | (simp only [blk_some, hi1_some] at *; omega))
          refine rg_end ?_
          refine n_blk ?_
          refine n_then ?_
          refine rg ?_
          refine st (mvI rfl) ?_
          refine st (y_add rfl rfl (by omega)) ?_
          refine st (asI rfl) ?_
          refine rg_end ?_
          exact n_then ⟨(d + 1, _), _, rfl, same_lk rfl (same_h0), ⟨rfl, trivial⟩, ⟨hlp2, by omega, by simp [hll], hv1, hs⟩, by first | omega | (dsimp only; omega)⟩
        ·
          have hg34n := hg34; try simp only [decide_eq_true_eq, decide_eq_false_iff_not, Bool.not_eq_true', Bool.not_eq_false', Bool.and_eq_true, Bool.or_eq_true, Bool.or_eq_false_iff, Bool.cond_true_right, Bool.cond_false_right, Bool.cond_true_left, Bool.cond_false_left, ne_eq, Decidable.not_not, bne_iff_ne, beq_iff_eq, beq_eq_false_iff_ne, Bool.not_true, Bool.not_false] at hg34n
          have hv1 : ∀ q : Nat, q < d + 1 → ((i : Int) ≠ j ∨ q = 0) → el (l.set (d : Int).toNat (decide ((d : Int) = 0))) (q : Int) = true := fun q hq hh => by
            by_cases e : q = d
            · subst e; rw [elSetS (by omega) (by omega)]; simp; omega
            · rw [elSetN (by omega) (by omega) (by omega)]; exact hfl q (by omega) hh
          refine stg rfl rfl hg34 (mvI rfl) ?_
          refine stg rfl rfl hg34 (y_eql rfl rfl) ?_
          refine st (y_pickF rfl hg34 (v := .bool _) rfl) ?_
          refine st (y_ix hs.sl sl68 rfl (hll.symm) rfl (by omega) (by omega)) ?_
          refine sd0 (d_se (j := 0)  hs sz4 rfl rfl rfl (by omega) (by omega) (Nat.le_of_ble_eq_true rfl) rfl ?_)
          intro w39 hs41 ho40 hs'
          have hrhs := hs.rng
          clear hs; have hs := hs'; clear hs'
          have hz42 := ho40.size
          replace hN := hN.out ho40 (by first | omega | (simp only [blk_some, hi1_some] at *; omega))
          replace hE := hE.step ho40 (by first | omega | (simp only [blk_some, hi1_some] at *; omega))
          replace hb1 := hb1.out ho40 (by first | omega | (simp only [blk_some, hi1_some] at *; omega))
          replace hlp0 := hlp0.step ho40 (by first | omega | (simp only [blk_some, hi1_some] at *; omega))
          replace hbx := hbx.out ho40 (by first | omega | (simp only [blk_some, hi1_some] at *; omega))
          replace hO := hO.out ho40 (by first | omega | (simp only [blk_some, hi1_some] at *; omega))
          replace hTR := hTR.out ho40 (by first | omega | (simp only [blk_some, hi1_some] at *; omega))
          replace hlp1 := hlp1.step ho40 (by first | omega | (simp only [blk_some, hi1_some] at *; omega))
          replace hlp2 := hlp2.step ho40 (by first | omega | (simp only [blk_some, hi1_some] at *; omega))
          refine rg_end ?_
          refine n_blk ?_
          refine n_then ?_
          refine rg ?_
          refine st (mvI rfl) ?_
          refine st (y_add rfl rfl (by omega)) ?_
          refine st (asI rfl) ?_
          refine rg_end ?_
          exact n_then ⟨(d + 1, _), _, rfl, same_lk rfl (same_h0), ⟨rfl, trivial⟩, ⟨hlp2, by omega, by simp [hll], hv1, hs⟩, by first | omega | (dsimp only; omega)⟩
      ·
        try simp only [decide_eq_true_eq, decide_eq_false_iff_not, Bool.not_eq_true', Bool.not_eq_false', Bool.and_eq_true, Bool.or_eq_true, Bool.or_eq_false_iff, Bool.cond_true_right, Bool.cond_false_right, Bool.cond_true_left, Bool.cond_false_left, ne_eq, Decidable.not_not, bne_iff_ne, beq_iff_eq, beq_eq_false_iff_ne, Bool.not_true, Bool.not_false] at hc3
        have hstx : fb → el l (r ((i : Int) * (N.evs.length : Int) + (j : Int))) = true := fun _ => by
          have h5 := hfl (r ((i : Int) * (N.evs.length : Int) + (j : Int))).toNat (by omega) (by
            by_cases e : (i : Int) = j
            · refine .inr ?_
              rw [← e, hres.diag _ (by omega) (by omega)]; rfl
            · exact .inl e)
          rwa [Int.toNat_of_nonneg hrs.1] at h5
        refine wp_exit ?_
        refine e_then (e_then (e_blk (?_)))
        refine n_then ?_
        refine rg ?_
        refine st (mvP rfl) ?_
        refine st (mvP rfl) ?_
        refine st (y_nil rfl) ?_
        refine st (y_fld fld67_1 rfl) ?_
        refine st (y_lb hbx na65 rfl rfl) ?_
        refine st (mvS rfl) ?_
        refine sd (d_bs (bsl65_1 _ _ _ _) rfl ?_)
        intro b6 w43 hbb6 hs45 ho44 hb6
        have hz46 := ho44.size
        replace hN := hN.ext ho44
        replace hE := hE.step ho44 (.inl (Nat.le_refl _))
        replace hb1 := hb1.ext ho44
        replace hlp0 := hlp0.step ho44 (.inl (Nat.le_refl _))
        replace hbx := hbx.ext ho44
        replace hO := hO.ext ho44
        replace hTR := hTR.ext ho44
        replace hlp1 := hlp1.step ho44 (.inl (Nat.le_refl _))
        replace hs := hs.ext ho44
        have hs0 := hs
        have hsr := hs.rng
        have hOr := hO.rng
        have hTR0 := hTR
        have hrhO := hO.rng
        refine sd (d_appA (xs := [(⟨some ⟨bs, 0, none⟩, pn, l⟩ : Rb)]) hO sl65 infoz68 (by decide) rfl rfl rfl rfl ((by simpa [encRb, hll] using hb6)) (fun _ => rfl) (by simp; unfold maxLen; omega) (by simp; omega) (by omega) (by omega) ?_)
        intro aw1 cw1 w47 hat hoA hO'
        have hs48 := hoA.size
        clear hO; have hO := hO'; clear hO'
        have hz51 := hoA.size
        replace hN := hN.out hoA (by first | omega | (simp only [blk_some, hi1_some] at *; omega))
        replace hE := hE.step hoA (by first | omega | (simp only [blk_some, hi1_some] at *; omega))
        replace hb1 := hb1.out hoA (by first | omega | (simp only [blk_some, hi1_some] at *; omega))
        replace hlp0 := hlp0.step hoA (by first | omega | (simp only [blk_some, hi1_some] at *; omega))
        replace hbx := hbx.out hoA (by first | omega | (simp only [blk_some, hi1_some] at *; omega))
        replace hlp1 := hlp1.step hoA (by first | omega | (simp only [blk_some, hi1_some] at *; omega))
        have hTR := hTR0.app (r := (⟨some ⟨bs, 0, none⟩, pn, l⟩ : Rb)) hs0 (by show ((l.length : Nat) : Int) = N.p; omega) (by omega) (by omega) (by omega) (by omega) (by omega) hoA hat
        have hst1 : Stay fb r (rows ++ [(⟨some ⟨bs, 0, none⟩, pn, l⟩ : Rb)]) := hst.app (fun hf => by show el l _ = true; rw [hlen]; exact hstx hf)
        refine st (y_nil rfl) ?_
        refine st (y_fld fld67_1 rfl) ?_
        refine sd0 (d_st hbx sz65 rfl rfl rfl (Nat.le_of_ble_eq_true rfl) ?_)
        intro w52 hs54 ho53 hbx'
        clear hbx; have hbx := hbx'; clear hbx'
        have hz55 := ho53.size
        replace hN := hN.out ho53 (by first | omega | (simp only [blk_some, hi1_some] at *; omega))
        replace hE := hE.step ho53 (by first | omega | (simp only [blk_some, hi1_some] at *; omega))
        replace hb1 := hb1.out ho53 (by first | omega | (simp only [blk_some, hi1_some] at *; omega))
        replace hlp0 := hlp0.step ho53 (by first | omega | (simp only [blk_some, hi1_some] at *; omega))
        replace hlp1 := hlp1.step ho53 (by first | omega | (simp only [blk_some, hi1_some] at *; omega))
        have hrnhO := hO.rng
        replace hO := hO.out ho53 (by first | omega | (simp only [blk_some, hi1_some] at *; omega))
        replace hTR := hTR.out ho53 (by first | omega | (simp only [blk_some, hi1_some] at *; omega))
        refine rg_end ?_
        refine n_blk ?_
        refine n_then ?_
        refine rg ?_
        refine st (mvI rfl) ?_
        refine st (y_add rfl rfl (by omega)) ?_
        refine st (asI rfl) ?_
        refine rg_end ?_
        exact n_then ⟨(j + 1, _, _, _), _, rfl, same_lk rfl (same_hav rfl (same_lk rfl (same_h0))), ⟨rfl, trivial⟩, ⟨hlp1, by omega, by simp; omega, hbx, hO.wide (by omega), hTR.wide (by omega), hst1⟩, by first | omega | (dsimp only; omega)⟩
    ·
      try simp only [decide_eq_true_eq, decide_eq_false_iff_not, Bool.not_eq_true', Bool.not_eq_false', Bool.and_eq_true, Bool.or_eq_true, Bool.or_eq_false_iff, Bool.cond_true_right, Bool.cond_false_right, Bool.cond_true_left, Bool.cond_false_left, ne_eq, Decidable.not_not, bne_iff_ne, beq_iff_eq, beq_eq_false_iff_ne, Bool.not_true, Bool.not_false] at hc2
      have hjm : (j : Int) = (N.evs.length : Int) := by omega
      rw [hjm] at hlen
      have hlen1 : (rows.length : Int) = (((i + 1 : Nat)) : Int) * (N.evs.length : Int) := by rw [hlen, show (((i + 1 : Nat)) : Int) = (i : Int) + 1 by omega, Int.add_mul, Int.one_mul]
      refine wp_exit ?_
      refine e_then (e_then (e_blk (?_)))
      refine n_blk ?_
      refine n_then ?_
      refine rg ?_
      refine st (mvI rfl) ?_
      refine st (y_add rfl rfl (by omega)) ?_
      refine st (asI rfl) ?_
      refine rg_end ?_
      exact n_then ⟨(i + 1, _, _, _), _, rfl, same_lk rfl (same_hav rfl (same_lk rfl (same_h0))), ⟨rfl, trivial⟩, ⟨hlp0, by omega, hlen1, hbx, hO.wide (by omega), hTR.wide (by omega), hst⟩, by first | omega | (dsimp only; omega)⟩
  ·
    try simp only [decide_eq_true_eq, decide_eq_false_iff_not, Bool.not_eq_true', Bool.not_eq_false', Bool.and_eq_true, Bool.or_eq_true, Bool.or_eq_false_iff, Bool.cond_true_right, Bool.cond_false_right, Bool.cond_true_left, Bool.cond_false_left, ne_eq, Decidable.not_not, bne_iff_ne, beq_iff_eq, beq_eq_false_iff_ne, Bool.not_true, Bool.not_false] at hc1
    have him : i = N.evs.length := by omega
    subst him
    obtain ⟨rows0, hr0⟩ : ∃ x, x = rows := ⟨_, rfl⟩
    have hlen0 : (rows0.length : Int) = (N.evs.length : Int) * (N.evs.length : Int) := by rw [hr0]; exact hlen
    rw [← hr0] at hbx
    obtain ⟨zh, hzh⟩ : ∃ x, x = w20.heap.size := ⟨_, rfl⟩
    have hT : Tab z zh w20 aw cw N.p rows := by rw [hzh]; exact ⟨hO, hTR.rs, hTR.sp, hTR.ln⟩
    refine wp_exit ?_
    refine e_then (e_then (e_blk (?_)))
    refine n_then ?_
    refine wp_seq ?_
    refine wp_seq ?_
    refine rg ?_
    refine st (asI rfl) ?_
    refine rg_end ?_
    refine n_then ?_
    refine wp_block ?_
    refine lp (γ := Nat × List Rb) [11, 12, 13, 62, 63, 64, 65, 66, 67, 68, 69, 70, 71, 72, 73, 74, 75, 76, 77, 78, 79, 80, 81, 82, 83, 84, 85, 86, 87, 88, 89, 90, 91, 92, 93, 94, 95, 96, 97, 98, 99, 100, 101, 102, 103, 104, 105, 106, 107, 108, 109, 110, 111, 112, 113, 114, 115, 116, 117, 118, 119, 120, 121, 122, 123] (fun ⟨k, rows⟩ => [(11, .int .i64 (k : Int))]) (fun ⟨k, rows⟩ w_ => Out z zh w20 w_ ∧ (k : Int) ≤ N.acts.length ∧ rows.length = rows0.length ∧ Tab z zh w_ aw cw N.p rows ∧ Stay fb r rows) (fun ⟨k, rows⟩ => N.acts.length - k) (0, rows) ⟨rfl, trivial⟩ ⟨Out.refl _ _ _, by omega, by rw [hr0], hT, hst⟩ ?_
    rintro ⟨k, rows⟩ hav_ w56 ⟨ho57, hk_, hrl, hT, hst⟩
    have hlp3 := ho57
    have hz58 := ho57.size
    replace hN := hN.out ho57 (by first | omega | (simp only [blk_some, hi1_some] at *; omega))
    replace hE := hE.step ho57 (by first | omega | (simp only [blk_some, hi1_some] at *; omega))
    replace hb1 := hb1.out ho57 (by first | omega | (simp only [blk_some, hi1_some] at *; omega))
    replace hbx := hbx.out ho57 (by first | omega | (simp only [blk_some, hi1_some] at *; omega))
    refine wp_seq ?_
    refine wp_seq ?_
    refine rg ?_
    refine st (mvI rfl) ?_
    refine st (y_fld fld26_2 rfl) ?_
    refine st (y_lb hb1 na24 rfl rfl) ?_
    refine st (y_len Try.underlying24 rfl) ?_
    refine st (y_lss rfl rfl) ?_
    refine rg_end ?_
    refine n_then ?_
    refine cnd rfl (fun hc4 => ?_) (fun hc4 => ?_)
    ·
      try simp only [decide_eq_true_eq, decide_eq_false_iff_not, Bool.not_eq_true', Bool.not_eq_false', Bool.and_eq_true, Bool.or_eq_true, Bool.or_eq_false_iff, Bool.cond_true_right, Bool.cond_false_right, Bool.cond_true_left, Bool.cond_false_left, ne_eq, Decidable.not_not, bne_iff_ne, beq_iff_eq, beq_eq_false_iff_ne, Bool.not_true, Bool.not_false] at hc4
      have ha := hok.acs _ (el_mem (l := N.acts) (i := (k : Int)) (by omega) hc4)
      obtain ⟨f0, f1, t0, t1, ne, m0, m1, m2, m3, _, _⟩ := ha
      have x1 := idx_rng (m := (N.evs.length : Int)) (i := (el N.acts (k : Int)).fr) (k := (el N.acts (k : Int)).tt) (by omega) f0 f1 t0 t1
      have x2 := idx_rng (m := (N.evs.length : Int)) (i := (el N.acts (k : Int)).tt) (k := (el N.acts (k : Int)).fr) (by omega) t0 t1 f0 f1
      refine wp_skip ?_
      refine n_then ?_
      refine wp_seq ?_
      refine wp_block ?_
      refine wp_seq ?_
      refine rg ?_
      refine st (y_fld fld26_2 rfl) ?_
      refine st (y_lb hb1 na24 rfl rfl) ?_
      refine st (mvI rfl) ?_
      refine st (y_ix hN.a sl24 rfl (rfl) rfl (by omega) (by omega)) ?_
      refine st (y_lw hN.a agg62 rfl (by omega) (by omega)) ?_
      refine sd (d_allocA zer62 ?_)
      intro b12 w59 hbb12 hs61 ho60 hb12
      have hz62 := ho60.size
      replace hN := hN.ext ho60
      replace hE := hE.step ho60 (.inl (Nat.le_refl _))
      replace hb1 := hb1.ext ho60
      replace hbx := hbx.ext ho60
      replace hT := hT.ext ho60
      replace hlp3 := hlp3.step ho60 (.inl (Nat.le_refl _))
      refine sd0 (d_stN hb12 rfl rfl sz62 rfl rfl ?_)
      intro w63 hs65 ho64 hb12'
      clear hb12; have hb12 := hb12'; clear hb12'
      have hz66 := ho64.size
      replace hN := hN.out ho64 (by first | omega | (simp only [blk_some, hi1_some] at *; omega))
      replace hE := hE.step ho64 (by first | omega | (simp only [blk_some, hi1_some] at *; omega))
      replace hb1 := hb1.out ho64 (by first | omega | (simp only [blk_some, hi1_some] at *; omega))
      replace hbx := hbx.out ho64 (by first | omega | (simp only [blk_some, hi1_some] at *; omega))
      replace hT := hT.out ho64 (by first | omega | (simp only [blk_some, hi1_some] at *; omega))
      replace hlp3 := hlp3.step ho64 (by first | omega | (simp only [blk_some, hi1_some] at *; omega))
      refine rg_end ?_
      refine n_then ?_
      refine wp_seq ?_
      refine rg ?_
      refine st (asI rfl) ?_
      refine rg_end ?_
      refine n_then ?_
      refine wp_block ?_
      refine lp (γ := Nat × List Rb) [13, 74, 75, 76, 77, 78, 79, 80, 81, 82, 83, 84, 85, 86, 87, 88, 89, 90, 91, 92, 93, 94, 95, 96, 97, 98, 99, 100, 101, 102, 103, 104, 105, 106, 107, 108, 109, 110, 111, 112, 113, 114, 115, 116, 117, 118, 119, 120, 121, 122, 123] (fun ⟨d, rows⟩ => [(13, .int .i64 (d : Int))]) (fun ⟨d, rows⟩ w_ => Out z zh w63 w_ ∧ (d : Int) ≤ N.p ∧ rows.length = rows0.length ∧ Tab z zh w_ aw cw N.p rows ∧ Stay fb r rows) (fun ⟨d, rows⟩ => pn - d) (0, rows) ⟨rfl, trivial⟩ ⟨Out.refl _ _ _, by omega, hrl, hT, hst⟩ ?_
      rintro ⟨d, rows⟩ hav_ w67 ⟨ho68, hd_, hrl, hT, hst⟩
      have hlp4 := ho68
      have hz69 := ho68.size
      replace hN := hN.out ho68 (by first | omega | (simp only [blk_some, hi1_some] at *; omega))
      replace hE := hE.step ho68 (by first | omega | (simp only [blk_some, hi1_some] at *; omega))
      replace hb1 := hb1.out ho68 (by first | omega | (simp only [blk_some, hi1_some] at *; omega))
      replace hbx := hbx.out ho68 (by first | omega | (simp only [blk_some, hi1_some] at *; omega))
      replace hlp3 := hlp3.step ho68 (by first | omega | (simp only [blk_some, hi1_some] at *; omega))
      replace hb12 := hb12.out ho68 (by first | omega | (simp only [blk_some, hi1_some] at *; omega))
      refine wp_seq ?_
      refine wp_seq ?_
      refine rg ?_
      refine st (mvI rfl) ?_
      refine st (mvI rfl) ?_
      refine st (y_lss rfl rfl) ?_
      refine rg_end ?_
      refine n_then ?_
      refine cnd rfl (fun hc5 => ?_) (fun hc5 => ?_)
      ·
        try simp only [decide_eq_true_eq, decide_eq_false_iff_not, Bool.not_eq_true', Bool.not_eq_false', Bool.and_eq_true, Bool.or_eq_true, Bool.or_eq_false_iff, Bool.cond_true_right, Bool.cond_false_right, Bool.cond_true_left, Bool.cond_false_left, ne_eq, Decidable.not_not, bne_iff_ne, beq_iff_eq, beq_eq_false_iff_ne, Bool.not_true, Bool.not_false] at hc5
        refine wp_skip ?_
        refine n_then ?_
        refine wp_seq ?_
        refine wp_block ?_
        refine wp_seq ?_
        refine rgD 11 (fun w_ => Ext w67 w_) (fun i => Nat.beq i 5) mixed (by kernel_rfl) ?_
        intro w70 ho71 hs72
        refine ⟨ho71, ?_⟩
        have hx73 := ho71
        refine tn rfl (fun _ hG => mvI rfl) ?_
        refine tn rfl (fun _ hG => y_fld fld62_3 rfl) ?_
        refine tn rfl (fun _ hG => y_lb (hb12.ext hG) na3 rfl rfl) ?_
        refine tn rfl (fun _ hG => y_sub rfl rfl (by omega)) ?_
        refine tn rfl (fun _ hG => mvI rfl) ?_
        refine tc rfl cl38 (ref1_Mod_ok _ _ _ (by omega) (by omega) (by omega)) rfl ?_
        rintro v78 w74 ⟨rfl, ho75⟩
        have hx79 := hx73.step ho75 (.inl (Nat.le_refl _))
        have hz80 := ho75.size
        refine ⟨hx79, ?_⟩
        refine tn rfl (fun _ hG => y_fld fld62_4 rfl) ?_
        refine tn rfl (fun _ hG => y_lb (hb12.ext hG) na3 rfl rfl) ?_
        refine tn rfl (fun _ hG => y_fld fld62_3 rfl) ?_
        refine tn rfl (fun _ hG => y_lb (hb12.ext hG) na3 rfl rfl) ?_
        refine tn rfl (fun _ hG => y_sub rfl rfl (by omega)) ?_
        refine t_end ?_
        have hz81 := hx79.size
        replace hN := hN.ext hx79
        replace hE := hE.step hx79 (.inl (Nat.le_refl _))
        replace hb1 := hb1.ext hx79
        replace hbx := hbx.ext hx79
        replace hlp3 := hlp3.step hx79 (.inl (Nat.le_refl _))
        replace hb12 := hb12.ext hx79
        replace hT := hT.ext hx79
        replace hlp4 := hlp4.step hx79 (.inl (Nat.le_refl _))
        refine st (y_gtr rfl rfl) ?_
        refine rg_end ?_
        refine n_then ?_
        refine cnd rfl (fun hc6 => ?_) (fun hc6 => ?_)
        ·
          try simp only [decide_eq_true_eq, decide_eq_false_iff_not, Bool.not_eq_true', Bool.not_eq_false', Bool.and_eq_true, Bool.or_eq_true, Bool.or_eq_false_iff, Bool.cond_true_right, Bool.cond_false_right, Bool.cond_true_left, Bool.cond_false_left, ne_eq, Decidable.not_not, bne_iff_ne, beq_iff_eq, beq_eq_false_iff_ne, Bool.not_true, Bool.not_false] at hc6
          have hTb := Ow.sl hT.tb
          have hrw := hT.rs.row ((el N.acts (k : Int)).fr * (N.evs.length : Int) + (el N.acts (k : Int)).tt) (by omega) (by omega)
          have hl1 := hT.ln ((el N.acts (k : Int)).fr * (N.evs.length : Int) + (el N.acts (k : Int)).tt) (by omega) (by omega)
          have hrwr := hrw.rng
          have hnd1 := Int.emod_nonneg (-(d : Int)) (b := N.p) (by omega)
          have hnd2 := Int.emod_lt_of_pos (-(d : Int)) (b := N.p) (by omega)
          have hne1 : fb → r ((el N.acts (k : Int)).fr * (N.evs.length : Int) + (el N.acts (k : Int)).tt) ≠ (d : Int) := fun hf e => by
            have h := hres.act hf _ (el_mem (l := N.acts) (i := (k : Int)) (by omega) hc4)
            rw [e] at h; omega
          have hne2 : fb → r ((el N.acts (k : Int)).tt * (N.evs.length : Int) + (el N.acts (k : Int)).fr) ≠ ((-(d : Int)) % N.p) := fun hf e => by
            have h := hres.neg (el N.acts (k : Int)).fr (el N.acts (k : Int)).tt f0 f1 t0 t1
            have hr1 := hres.rng ((el N.acts (k : Int)).fr * (N.evs.length : Int) + (el N.acts (k : Int)).tt)
            refine hne1 hf (neg_inj (by omega) hr1.1 hr1.2 (by omega) (by omega) (h.trans e))
          refine wp_seq ?_
          refine rgD 14 (fun w_ => Ext w74 w_) (fun i => false) mixed (by kernel_rfl) ?_
          intro w82 ho83 hs84
          refine ⟨ho83, ?_⟩
          have hx85 := ho83
          refine tn rfl (fun _ hG => mvP rfl) ?_
          refine tn rfl (fun _ hG => y_nil rfl) ?_
          refine tn rfl (fun _ hG => y_fld fld67_1 rfl) ?_
          refine tn rfl (fun _ hG => y_lb (hbx.ext hG) na65 rfl rfl) ?_
          refine tn rfl (fun _ hG => y_fld fld62_1 rfl) ?_
          refine tn rfl (fun _ hG => y_lb (hb12.ext hG) na3 rfl rfl) ?_
          refine tn rfl (fun _ hG => mvI rfl) ?_
          refine tn rfl (fun _ hG => y_mul rfl rfl (by omega)) ?_
          refine tn rfl (fun _ hG => y_fld fld62_2 rfl) ?_
          refine tn rfl (fun _ hG => y_lb (hb12.ext hG) na3 rfl rfl) ?_
          refine tn rfl (fun _ hG => y_add rfl rfl (by omega)) ?_
          refine tn rfl (fun _ hG => y_ix (hTb.ext hG) sl65 rfl (hrl.symm) rfl (by omega) (by omega)) ?_
          refine tn rfl (fun _ hG => y_le (hTb.ext hG) na68 rfl (by omega) (by omega) rfl) ?_
          refine tn rfl (fun _ hG => mvI rfl) ?_
          refine t_end ?_
          have hz86 := hx85.size
          replace hN := hN.ext hx85
          replace hE := hE.step hx85 (.inl (Nat.le_refl _))
          replace hb1 := hb1.ext hx85
          replace hbx := hbx.ext hx85
          replace hlp3 := hlp3.step hx85 (.inl (Nat.le_refl _))
          replace hb12 := hb12.ext hx85
          replace hT := hT.ext hx85
          replace hlp4 := hlp4.step hx85 (.inl (Nat.le_refl _))
          replace hTb := hTb.ext hx85
          replace hrw := hrw.ext hx85
          refine st (y_ix hrw.sl sl68 rfl (rfl) rfl (by omega) (by omega)) ?_
          have hT0 := hT
          refine sd0 (d_se (j := 0) (e' := false) hrw sz4 rfl rfl rfl (by omega) (by omega) (Nat.le_of_ble_eq_true rfl) rfl ?_)
          intro w87 hs88 hoW hrw'
          have hrhrw := hrw.rng
          clear hrw; have hrw := hrw'; clear hrw'
          have hz89 := hoW.size
          replace hN := hN.out hoW (by first | omega | (simp only [blk_some, hi1_some] at *; omega))
          replace hE := hE.step hoW (by first | omega | (simp only [blk_some, hi1_some] at *; omega))
          replace hb1 := hb1.out hoW (by first | omega | (simp only [blk_some, hi1_some] at *; omega))
          replace hbx := hbx.out hoW (by first | omega | (simp only [blk_some, hi1_some] at *; omega))
          replace hlp3 := hlp3.step hoW (by first | omega | (simp only [blk_some, hi1_some] at *; omega))
          replace hb12 := hb12.out hoW (by first | omega | (simp only [blk_some, hi1_some] at *; omega))
          replace hlp4 := hlp4.step hoW (by first | omega | (simp only [blk_some, hi1_some] at *; omega))
          have hT : Tab z zh w87 aw cw N.p (rows.set ((el N.acts (k : Int)).fr * (N.evs.length : Int) + (el N.acts (k : Int)).tt).toNat (⟨(el rows ((el N.acts (k : Int)).fr * (N.evs.length : Int) + (el N.acts (k : Int)).tt)).a, (el rows ((el N.acts (k : Int)).fr * (N.evs.length : Int) + (el N.acts (k : Int)).tt)).c, (el rows ((el N.acts (k : Int)).fr * (N.evs.length : Int) + (el N.acts (k : Int)).tt)).l.set (d : Int).toNat false⟩ : Rb)) := hT0.upd (u := ((el N.acts (k : Int)).fr * (N.evs.length : Int) + (el N.acts (k : Int)).tt)) (by omega) (by omega) hoW (by simp) hrw
          have hst1 : Stay fb r (rows.set ((el N.acts (k : Int)).fr * (N.evs.length : Int) + (el N.acts (k : Int)).tt).toNat (⟨(el rows ((el N.acts (k : Int)).fr * (N.evs.length : Int) + (el N.acts (k : Int)).tt)).a, (el rows ((el N.acts (k : Int)).fr * (N.evs.length : Int) + (el N.acts (k : Int)).tt)).c, (el rows ((el N.acts (k : Int)).fr * (N.evs.length : Int) + (el N.acts (k : Int)).tt)).l.set (d : Int).toNat false⟩ : Rb)) := hst.set (by omega) (by omega) (fun hf => by rw [elSetN (by omega) (hres.rng _).1 (hne1 hf)]; exact hst hf _ (by omega) (by omega))
          have hrl1 : (rows.set ((el N.acts (k : Int)).fr * (N.evs.length : Int) + (el N.acts (k : Int)).tt).toNat (⟨(el rows ((el N.acts (k : Int)).fr * (N.evs.length : Int) + (el N.acts (k : Int)).tt)).a, (el rows ((el N.acts (k : Int)).fr * (N.evs.length : Int) + (el N.acts (k : Int)).tt)).c, (el rows ((el N.acts (k : Int)).fr * (N.evs.length : Int) + (el N.acts (k : Int)).tt)).l.set (d : Int).toNat false⟩ : Rb)).length = rows0.length := by rw [List.length_set]; exact hrl
          have hTb := Ow.sl hT.tb
          have hrv := hT.rs.row ((el N.acts (k : Int)).tt * (N.evs.length : Int) + (el N.acts (k : Int)).fr) (by omega) (by omega)
          have hl2 := hT.ln ((el N.acts (k : Int)).tt * (N.evs.length : Int) + (el N.acts (k : Int)).fr) (by omega) (by omega)
          have hrvr := hrv.rng
          refine rg_end ?_
          refine n_then ?_
          have hrl1x : rows0.length = (rows.set ((el N.acts (k : Int)).fr * (N.evs.length : Int) + (el N.acts (k : Int)).tt).toNat (⟨(el rows ((el N.acts (k : Int)).fr * (N.evs.length : Int) + (el N.acts (k : Int)).tt)).a, (el rows ((el N.acts (k : Int)).fr * (N.evs.length : Int) + (el N.acts (k : Int)).tt)).c, (el rows ((el N.acts (k : Int)).fr * (N.evs.length : Int) + (el N.acts (k : Int)).tt)).l.set (d : Int).toNat false⟩ : Rb)).length := hrl1.symm
          refine rgD 17 (fun w_ => Ext w87 w_) (fun i => Nat.beq i 16) mixed (by kernel_rfl) ?_
          intro w90 ho91 hs92
          refine ⟨ho91, ?_⟩
          have hx93 := ho91
          refine tn rfl (fun _ hG => mvP rfl) ?_
          refine tn rfl (fun _ hG => y_nil rfl) ?_
          refine tn rfl (fun _ hG => y_fld fld67_1 rfl) ?_
          refine tn rfl (fun _ hG => y_lb (hbx.ext hG) na65 rfl rfl) ?_
          refine tn rfl (fun _ hG => y_fld fld62_2 rfl) ?_
          refine tn rfl (fun _ hG => y_lb (hb12.ext hG) na3 rfl rfl) ?_
          refine tn rfl (fun _ hG => mvI rfl) ?_
          refine tn rfl (fun _ hG => y_mul rfl rfl (by omega)) ?_
          refine tn rfl (fun _ hG => y_fld fld62_1 rfl) ?_
          refine tn rfl (fun _ hG => y_lb (hb12.ext hG) na3 rfl rfl) ?_
          refine tn rfl (fun _ hG => y_add rfl rfl (by omega)) ?_
          refine tn rfl (fun _ hG => y_ix (hTb.ext hG) sl65 rfl (hrl1x) rfl (by omega) (by omega)) ?_
          refine tn rfl (fun _ hG => y_le (hTb.ext hG) na68 rfl (by omega) (by omega) rfl) ?_
          refine tn rfl (fun _ hG => mvI rfl) ?_
          refine tn rfl (fun _ hG => y_neg rfl (by omega)) ?_
          refine tn rfl (fun _ hG => mvI rfl) ?_
          refine tc rfl cl38 (ref1_Mod_ok _ _ _ (by omega) (by omega) (by omega)) rfl ?_
          rintro v98 w94 ⟨rfl, ho95⟩
          have hx99 := hx93.step ho95 (.inl (Nat.le_refl _))
          have hz100 := ho95.size
          refine ⟨hx99, ?_⟩
          refine t_end ?_
          have hz101 := hx99.size
          replace hN := hN.ext hx99
          replace hE := hE.step hx99 (.inl (Nat.le_refl _))
          replace hb1 := hb1.ext hx99
          replace hbx := hbx.ext hx99
          replace hlp3 := hlp3.step hx99 (.inl (Nat.le_refl _))
          replace hb12 := hb12.ext hx99
          replace hlp4 := hlp4.step hx99 (.inl (Nat.le_refl _))
          replace hT := hT.ext hx99
          replace hTb := hTb.ext hx99
          replace hrv := hrv.ext hx99
          refine st (y_ix hrv.sl sl68 rfl (rfl) rfl (by omega) (by omega)) ?_
          have hT0 := hT
          refine sd0 (d_se (j := 0) (e' := false) hrv sz4 rfl rfl rfl (by omega) (by omega) (Nat.le_of_ble_eq_true rfl) rfl ?_)
          intro w102 hs103 hoV hrv'
          have hrhrv := hrv.rng
          clear hrv; have hrv := hrv'; clear hrv'
          have hz104 := hoV.size
          replace hN := hN.out hoV (by first | omega | (simp only [blk_some, hi1_some] at *; omega))
          replace hE := hE.step hoV (by first | omega | (simp only [blk_some, hi1_some] at *; omega))
          replace hb1 := hb1.out hoV (by first | omega | (simp only [blk_some, hi1_some] at *; omega))
          replace hbx := hbx.out hoV (by first | omega | (simp only [blk_some, hi1_some] at *; omega))
          replace hlp3 := hlp3.step hoV (by first | omega | (simp only [blk_some, hi1_some] at *; omega))
          replace hb12 := hb12.out hoV (by first | omega | (simp only [blk_some, hi1_some] at *; omega))
          replace hlp4 := hlp4.step hoV (by first | omega | (simp only [blk_some, hi1_some] at *; omega))
          have hT : Tab z zh w102 aw cw N.p ((rows.set ((el N.acts (k : Int)).fr * (N.evs.length : Int) + (el N.acts (k : Int)).tt).toNat (⟨(el rows ((el N.acts (k : Int)).fr * (N.evs.length : Int) + (el N.acts (k : Int)).tt)).a, (el rows ((el N.acts (k : Int)).fr * (N.evs.length : Int) + (el N.acts (k : Int)).tt)).c, (el rows ((el N.acts (k : Int)).fr * (N.evs.length : Int) + (el N.acts (k : Int)).tt)).l.set (d : Int).toNat false⟩ : Rb)).set ((el N.acts (k : Int)).tt * (N.evs.length : Int) + (el N.acts (k : Int)).fr).toNat (⟨(el (rows.set ((el N.acts (k : Int)).fr * (N.evs.length : Int) + (el N.acts (k : Int)).tt).toNat (⟨(el rows ((el N.acts (k : Int)).fr * (N.evs.length : Int) + (el N.acts (k : Int)).tt)).a, (el rows ((el N.acts (k : Int)).fr * (N.evs.length : Int) + (el N.acts (k : Int)).tt)).c, (el rows ((el N.acts (k : Int)).fr * (N.evs.length : Int) + (el N.acts (k : Int)).tt)).l.set (d : Int).toNat false⟩ : Rb)) ((el N.acts (k : Int)).tt * (N.evs.length : Int) + (el N.acts (k : Int)).fr)).a, (el (rows.set ((el N.acts (k : Int)).fr * (N.evs.length : Int) + (el N.acts (k : Int)).tt).toNat (⟨(el rows ((el N.acts (k : Int)).fr * (N.evs.length : Int) + (el N.acts (k : Int)).tt)).a, (el rows ((el N.acts (k : Int)).fr * (N.evs.length : Int) + (el N.acts (k : Int)).tt)).c, (el rows ((el N.acts (k : Int)).fr * (N.evs.length : Int) + (el N.acts (k : Int)).tt)).l.set (d : Int).toNat false⟩ : Rb)) ((el N.acts (k : Int)).tt * (N.evs.length : Int) + (el N.acts (k : Int)).fr)).c, (el (rows.set ((el N.acts (k : Int)).fr * (N.evs.length : Int) + (el N.acts (k : Int)).tt).toNat (⟨(el rows ((el N.acts (k : Int)).fr * (N.evs.length : Int) + (el N.acts (k : Int)).tt)).a, (el rows ((el N.acts (k : Int)).fr * (N.evs.length : Int) + (el N.acts (k : Int)).tt)).c, (el rows ((el N.acts (k : Int)).fr * (N.evs.length : Int) + (el N.acts (k : Int)).tt)).l.set (d : Int).toNat false⟩ : Rb)) ((el N.acts (k : Int)).tt * (N.evs.length : Int) + (el N.acts (k : Int)).fr)).l.set ((-(d : Int)) % N.p).toNat false⟩ : Rb)) := hT0.upd (u := ((el N.acts (k : Int)).tt * (N.evs.length : Int) + (el N.acts (k : Int)).fr)) (by omega) (by omega) hoV (by simp) hrv
          have hst2 : Stay fb r ((rows.set ((el N.acts (k : Int)).fr * (N.evs.length : Int) + (el N.acts (k : Int)).tt).toNat (⟨(el rows ((el N.acts (k : Int)).fr * (N.evs.length : Int) + (el N.acts (k : Int)).tt)).a, (el rows ((el N.acts (k : Int)).fr * (N.evs.length : Int) + (el N.acts (k : Int)).tt)).c, (el rows ((el N.acts (k : Int)).fr * (N.evs.length : Int) + (el N.acts (k : Int)).tt)).l.set (d : Int).toNat false⟩ : Rb)).set ((el N.acts (k : Int)).tt * (N.evs.length : Int) + (el N.acts (k : Int)).fr).toNat (⟨(el (rows.set ((el N.acts (k : Int)).fr * (N.evs.length : Int) + (el N.acts (k : Int)).tt).toNat (⟨(el rows ((el N.acts (k : Int)).fr * (N.evs.length : Int) + (el N.acts (k : Int)).tt)).a, (el rows ((el N.acts (k : Int)).fr * (N.evs.length : Int) + (el N.acts (k : Int)).tt)).c, (el rows ((el N.acts (k : Int)).fr * (N.evs.length : Int) + (el N.acts (k : Int)).tt)).l.set (d : Int).toNat false⟩ : Rb)) ((el N.acts (k : Int)).tt * (N.evs.length : Int) + (el N.acts (k : Int)).fr)).a, (el (rows.set ((el N.acts (k : Int)).fr * (N.evs.length : Int) + (el N.acts (k : Int)).tt).toNat (⟨(el rows ((el N.acts (k : Int)).fr * (N.evs.length : Int) + (el N.acts (k : Int)).tt)).a, (el rows ((el N.acts (k : Int)).fr * (N.evs.length : Int) + (el N.acts (k : Int)).tt)).c, (el rows ((el N.acts (k : Int)).fr * (N.evs.length : Int) + (el N.acts (k : Int)).tt)).l.set (d : Int).toNat false⟩ : Rb)) ((el N.acts (k : Int)).tt * (N.evs.length : Int) + (el N.acts (k : Int)).fr)).c, (el (rows.set ((el N.acts (k : Int)).fr * (N.evs.length : Int) + (el N.acts (k : Int)).tt).toNat (⟨(el rows ((el N.acts (k : Int)).fr * (N.evs.length : Int) + (el N.acts (k : Int)).tt)).a, (el rows ((el N.acts (k : Int)).fr * (N.evs.length : Int) + (el N.acts (k : Int)).tt)).c, (el rows ((el N.acts (k : Int)).fr * (N.evs.length : Int) + (el N.acts (k : Int)).tt)).l.set (d : Int).toNat false⟩ : Rb)) ((el N.acts (k : Int)).tt * (N.evs.length : Int) + (el N.acts (k : Int)).fr)).l.set ((-(d : Int)) % N.p).toNat false⟩ : Rb)) := hst1.set (by omega) (by omega) (fun hf => by rw [elSetN (by omega) (hres.rng _).1 (hne2 hf)]; exact hst1 hf _ (by omega) (by omega))
          have hrl2 : ((rows.set ((el N.acts (k : Int)).fr * (N.evs.length : Int) + (el N.acts (k : Int)).tt).toNat (⟨(el rows ((el N.acts (k : Int)).fr * (N.evs.length : Int) + (el N.acts (k : Int)).tt)).a, (el rows ((el N.acts (k : Int)).fr * (N.evs.length : Int) + (el N.acts (k : Int)).tt)).c, (el rows ((el N.acts (k : Int)).fr * (N.evs.length : Int) + (el N.acts (k : Int)).tt)).l.set (d : Int).toNat false⟩ : Rb)).set ((el N.acts (k : Int)).tt * (N.evs.length : Int) + (el N.acts (k : Int)).fr).toNat (⟨(el (rows.set ((el N.acts (k : Int)).fr * (N.evs.length : Int) + (el N.acts (k : Int)).tt).toNat (⟨(el rows ((el N.acts (k : Int)).fr * (N.evs.length : Int) + (el N.acts (k : Int)).tt)).a, (el rows ((el N.acts (k : Int)).fr * (N.evs.length : Int) + (el N.acts (k : Int)).tt)).c, (el rows ((el N.acts (k : Int)).fr * (N.evs.length : Int) + (el N.acts (k : Int)).tt)).l.set (d : Int).toNat false⟩ : Rb)) ((el N.acts (k : Int)).tt * (N.evs.length : Int) + (el N.acts (k : Int)).fr)).a, (el (rows.set ((el N.acts (k : Int)).fr * (N.evs.length : Int) + (el N.acts (k : Int)).tt).toNat (⟨(el rows ((el N.acts (k : Int)).fr * (N.evs.length : Int) + (el N.acts (k : Int)).tt)).a, (el rows ((el N.acts (k : Int)).fr * (N.evs.length : Int) + (el N.acts (k : Int)).tt)).c, (el rows ((el N.acts (k : Int)).fr * (N.evs.length : Int) + (el N.acts (k : Int)).tt)).l.set (d : Int).toNat false⟩ : Rb)) ((el N.acts (k : Int)).tt * (N.evs.length : Int) + (el N.acts (k : Int)).fr)).c, (el (rows.set ((el N.acts (k : Int)).fr * (N.evs.length : Int) + (el N.acts (k : Int)).tt).toNat (⟨(el rows ((el N.acts (k : Int)).fr * (N.evs.length : Int) + (el N.acts (k : Int)).tt)).a, (el rows ((el N.acts (k : Int)).fr * (N.evs.length : Int) + (el N.acts (k : Int)).tt)).c, (el rows ((el N.acts (k : Int)).fr * (N.evs.length : Int) + (el N.acts (k : Int)).tt)).l.set (d : Int).toNat false⟩ : Rb)) ((el N.acts (k : Int)).tt * (N.evs.length : Int) + (el N.acts (k : Int)).fr)).l.set ((-(d : Int)) % N.p).toNat false⟩ : Rb)).length = rows0.length := by rw [List.length_set]; exact hrl1
          refine rg_end ?_
          refine n_blk ?_
          refine n_then ?_
          refine rg ?_
          refine st (mvI rfl) ?_
          refine st (y_add rfl rfl (by omega)) ?_
          refine st (asI rfl) ?_
          refine rg_end ?_
          exact n_then ⟨(d + 1, _), _, rfl, same_lk rfl (same_h0), ⟨rfl, trivial⟩, ⟨hlp4, by omega, by first | exact hrl2 | exact hrl, hT, by first | exact hst2 | exact hst⟩, by first | omega | (dsimp only; omega)⟩
        ·
          try simp only [decide_eq_true_eq, decide_eq_false_iff_not, Bool.not_eq_true', Bool.not_eq_false', Bool.and_eq_true, Bool.or_eq_true, Bool.or_eq_false_iff, Bool.cond_true_right, Bool.cond_false_right, Bool.cond_true_left, Bool.cond_false_left, ne_eq, Decidable.not_not, bne_iff_ne, beq_iff_eq, beq_eq_false_iff_ne, Bool.not_true, Bool.not_false] at hc6
          refine wp_skip ?_
          refine n_blk ?_
          refine n_then ?_
          refine rg ?_
          refine st (mvI rfl) ?_
          refine st (y_add rfl rfl (by omega)) ?_
          refine st (asI rfl) ?_
          refine rg_end ?_
          exact n_then ⟨(d + 1, _), _, rfl, same_lk rfl (same_h0), ⟨rfl, trivial⟩, ⟨hlp4, by omega, by first | exact hrl2 | exact hrl, hT, by first | exact hst2 | exact hst⟩, by first | omega | (dsimp only; omega)⟩
      ·
        try simp only [decide_eq_true_eq, decide_eq_false_iff_not, Bool.not_eq_true', Bool.not_eq_false', Bool.and_eq_true, Bool.or_eq_true, Bool.or_eq_false_iff, Bool.cond_true_right, Bool.cond_false_right, Bool.cond_true_left, Bool.cond_false_left, ne_eq, Decidable.not_not, bne_iff_ne, beq_iff_eq, beq_eq_false_iff_ne, Bool.not_true, Bool.not_false] at hc5
        refine wp_exit ?_
        refine e_then (e_then (e_blk (?_)))
        refine n_blk ?_
        refine n_then ?_
        refine rg ?_
        refine st (mvI rfl) ?_
        refine st (y_add rfl rfl (by omega)) ?_
        refine st (asI rfl) ?_
        refine rg_end ?_
        exact n_then ⟨(k + 1, _), _, rfl, same_lk rfl (same_hav rfl (same_lk rfl (same_h0))), ⟨rfl, trivial⟩, ⟨hlp3, by omega, hrl, hT, hst⟩, by first | omega | (dsimp only; omega)⟩
    ·
      try simp only [decide_eq_true_eq, decide_eq_false_iff_not, Bool.not_eq_true', Bool.not_eq_false', Bool.and_eq_true, Bool.or_eq_true, Bool.or_eq_false_iff, Bool.cond_true_right, Bool.cond_false_right, Bool.cond_true_left, Bool.cond_false_left, ne_eq, Decidable.not_not, bne_iff_ne, beq_iff_eq, beq_eq_false_iff_ne, Bool.not_true, Bool.not_false] at hc4
      refine wp_exit ?_
      refine e_then (e_then (e_blk (?_)))
      refine n_then ?_
      refine wp_seq ?_
      refine wp_block ?_
      refine lp (γ := List Rb) [6, 124, 125] (fun rows => [(6, .pointer (some ⟨bx, 0, none⟩))]) (fun rows w_ => Out z zh w56 w_ ∧ rows.length = rows0.length ∧ Tab z zh w_ aw cw N.p rows ∧ Stay fb r rows) (fun rows => totB rows) rows ⟨rfl, trivial⟩ ⟨Out.refl _ _ _, hrl, hT, hst⟩ ?_
      rintro rows hav_ w105 ⟨ho106, hrl, hT, hst⟩
      have hlp5 := ho106
      have hz107 := ho106.size
      replace hN := hN.out ho106 (by first | omega | (simp only [blk_some, hi1_some] at *; omega))
      replace hE := hE.step ho106 (by first | omega | (simp only [blk_some, hi1_some] at *; omega))
      replace hb1 := hb1.out ho106 (by first | omega | (simp only [blk_some, hi1_some] at *; omega))
      replace hbx := hbx.out ho106 (by first | omega | (simp only [blk_some, hi1_some] at *; omega))
      refine wp_seq ?_
      refine wp_seq ?_
      refine rg ?_
      refine st (mvP rfl) ?_
      refine sc cl39 (ref13_tighten_ok N A bx z zh aw cw rows fb r _ (by rw [hrl]; exact hbx) hT (by omega) (by omega) hok (by omega) hst hres) rfl ?_
      rintro v112 w108 ⟨b, rows', rfl, hT, hrl', hst', hbt, ho109⟩
      have hz113 := ho109.size
      replace hN := hN.out ho109 (by first | omega | (simp only [blk_some, hi1_some] at *; omega))
      replace hE := hE.step ho109 (by first | omega | (simp only [blk_some, hi1_some] at *; omega))
      replace hb1 := hb1.out ho109 (by first | omega | (simp only [blk_some, hi1_some] at *; omega))
      replace hbx := hbx.out ho109 (by first | omega | (simp only [blk_some, hi1_some] at *; omega))
      replace hlp5 := hlp5.step ho109 (by first | omega | (simp only [blk_some, hi1_some] at *; omega))
      refine rg_end ?_
      refine n_then ?_
      refine cnd rfl (fun hc7 => ?_) (fun hc7 => ?_)
      ·
        try simp only [decide_eq_true_eq, decide_eq_false_iff_not, Bool.not_eq_true', Bool.not_eq_false', Bool.and_eq_true, Bool.or_eq_true, Bool.or_eq_false_iff, Bool.cond_true_right, Bool.cond_false_right, Bool.cond_true_left, Bool.cond_false_left, ne_eq, Decidable.not_not, bne_iff_ne, beq_iff_eq, beq_eq_false_iff_ne, Bool.not_true, Bool.not_false] at hc7
        refine wp_skip ?_
        refine n_then ?_
        refine wp_block ?_
        refine wp_skip ?_
        refine n_blk ?_
        exact n_then ⟨rows', _, rfl, same_lk rfl (same_h0), ⟨rfl, trivial⟩, ⟨hlp5, by omega, hT, hst'⟩, hbt hc7⟩
      ·
        try simp only [decide_eq_true_eq, decide_eq_false_iff_not, Bool.not_eq_true', Bool.not_eq_false', Bool.and_eq_true, Bool.or_eq_true, Bool.or_eq_false_iff, Bool.cond_true_right, Bool.cond_false_right, Bool.cond_true_left, Bool.cond_false_left, ne_eq, Decidable.not_not, bne_iff_ne, beq_iff_eq, beq_eq_false_iff_ne, Bool.not_true, Bool.not_false] at hc7
        refine wp_exit ?_
        refine e_then (e_then (e_blk (?_)))
        refine n_then ?_
        refine wp_seq ?_
        refine rg ?_
        refine st (mvP rfl) ?_
        refine st (asP rfl) ?_
        refine st (asI rfl) ?_
        refine rg_end ?_
        refine n_then ?_
        refine wp_ret ?_
        refine ret2 (v := (.pointer _)) (v' := (.int .i64 _)) Try.results14 rfl rfl ?_
        exact ⟨bx, z, zh, aw, cw, rows', rfl, by rw [show rows'.length = rows0.length by omega]; exact hbx, hT, by omega, hst', by omega, by omega, by omega, hE⟩
end Go.Proofs.Ytdbiapbdmmkfjaa
