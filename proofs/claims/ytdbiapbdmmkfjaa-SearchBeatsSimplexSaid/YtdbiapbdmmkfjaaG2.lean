/-
  Walks of the functions, printed by a program out of the code and the loops' relations.
-/
import Derived.Test.YtdbiapbdmmkfjaaWkD
import Derived.Test.YtdbiapbdmmkfjaaProg
import Derived.KernelRfl
import Derived.Test.YtdbiapbdmmkfjaaG1
namespace Go.Proofs.Ytdbiapbdmmkfjaa
open Go.Wk Go.RowKit
set_option linter.unusedVariables false
set_option linter.unusedSimpArgs false
theorem fld67_0 : FieldOf Try.prog 67 0 0 := fun b o w => by simp [Instr.fieldAt, fieldPlace, Instr.sureAddr, Addr.add_lit]

theorem set_self {rows : List Rb} {u : Int} (u0 : 0 ≤ u) (u1 : u < rows.length) : rows.set u.toNat ⟨(el rows u).a, (el rows u).c, (el rows u).l⟩ = rows := by
  have hu : u.toNat < rows.length := by omega
  have e : (⟨(el rows u).a, (el rows u).c, (el rows u).l⟩ : Rb) = rows[u.toNat] := by simp [el, hu]
  rw [e]; exact List.set_getElem_self hu
theorem idx_rng {m i k : Int} (m48 : m ≤ 48) (i0 : 0 ≤ i) (i1 : i < m) (k0 : 0 ≤ k) (k1 : k < m) : 0 ≤ i * m ∧ i * m ≤ 2304 ∧ 0 ≤ i * m + k ∧ i * m + k < m * m := by
  have h1 : 0 ≤ i * m := Int.mul_nonneg i0 (by omega)
  have h2 : (i + 1) * m ≤ m * m := Int.mul_le_mul_of_nonneg_right (by omega) (by omega)
  have h3 : m * m ≤ 48 * 48 := Int.mul_le_mul (by omega) (by omega) (by omega) (by omega)
  rw [Int.add_mul, Int.one_mul] at h2
  omega

set_option maxHeartbeats 2000000 in
set_option maxRecDepth 100000 in
theorem ref13_restrict_ok (bx : Nat) (P : Int) (v1 v2 v3 : Value) (z hi : Nat) (aw : Option Addr) (cw : Nat) (rows : List Rb) (u v y : Int) (fb : Prop) (r : Int → Int) (w : World) (hbx : Blk w bx [.int .i64 P, v1, v2, v3]) (hT : Tab z hi w aw cw P rows) (hd : bx < z) (hz : hi ≤ w.heap.size) (hP : 1 ≤ P ∧ P ≤ 7200) (u0 : 0 ≤ u) (u1 : u < rows.length) (y0 : 0 ≤ v) (y1 : v < rows.length) (y2 : 0 ≤ y) (y3 : y < rows.length) (hst : Stay fb r rows) (hrr : ∀ e : Int, 0 ≤ r e ∧ r e < P) (hsum : (r u - r v) % P = r y) : Cal Try.prog 60 [.pointer (some ⟨bx, 0, none⟩), .slice (el rows u).a (el rows u).l.length (el rows u).c, .slice (el rows v).a (el rows v).l.length (el rows v).c, .slice (el rows y).a (el rows y).l.length (el rows y).c] w (fun v w' => ∃ b l, v = .bool b ∧ Tab z hi w' aw cw P (rows.set u.toNat ⟨(el rows u).a, (el rows u).c, l⟩) ∧ Stay fb r (rows.set u.toNat ⟨(el rows u).a, (el rows u).c, l⟩) ∧ (b = true → l.count true < (el rows u).l.count true) ∧ l.count true ≤ (el rows u).l.count true ∧ Out z hi w w') := by
  have hlu := hT.ln u u0 u1
  have hlv := hT.ln v y0 y1
  have hly := hT.ln y y2 y3
  have hbl := hbx.lt
  have hE : Out z hi w w := Out.refl _ _ w
  refine enter Try.func60 rfl Try.ntmps60 rfl ?_
  refine wp_seq ?_
  refine rg ?_
  refine st (asB rfl) ?_
  refine rg_end ?_
  refine n_then ?_
  refine wp_seq ?_
  refine rg ?_
  refine st (mvP rfl) ?_
  refine st (y_nil rfl) ?_
  refine st (y_fld fld67_0 rfl) ?_
  refine st (y_fld fld26_0 rfl) ?_
  refine st (y_lb hbx na3 rfl rfl) ?_
  refine st (asI rfl) ?_
  refine st (asB rfl) ?_
  refine rg_end ?_
  refine n_then ?_
  refine wp_seq ?_
  refine wp_seq ?_
  refine rg ?_
  refine st (asI rfl) ?_
  refine rg_end ?_
  refine n_then ?_
  refine wp_block ?_
  refine lp (γ := Nat × Bool × List Bool) [10, 11, 12, 13, 19, 20, 21, 22, 23, 24, 25, 26, 27, 28, 29, 30, 31, 32, 33, 34, 35, 36, 37, 38, 39, 40, 41, 42, 43, 44, 45, 46, 47, 48, 49, 50, 51, 52, 53, 54, 55, 56] (fun ⟨d, b, l⟩ => [(11, .int .i64 (d : Int)), (10, .bool b)]) (fun ⟨d, b, l⟩ w_ => Out z hi w w_ ∧ (d : Int) ≤ P ∧ (l.length : Int) = P ∧ Tab z hi w_ aw cw P (rows.set u.toNat ⟨(el rows u).a, (el rows u).c, l⟩) ∧ Stay fb r (rows.set u.toNat ⟨(el rows u).a, (el rows u).c, l⟩) ∧ (b = true → l.count true < (el rows u).l.count true) ∧ l.count true ≤ (el rows u).l.count true) (fun ⟨d, b, l⟩ => P.toNat - d) (0, false, (el rows u).l) ⟨rfl, rfl, trivial⟩ ⟨Out.refl _ _ _, by (try dsimp only); omega, hlu, by rw [set_self u0 u1]; exact hT, by rw [set_self u0 u1]; exact hst, (fun h => by cases h), Nat.le_refl _⟩ ?_
  rintro ⟨d, b, l⟩ hav_ w1 ⟨ho2, hdP, hll0, hT, hst2, hbc, hcl⟩
  have hlp0 := ho2
  have hz3 := ho2.size
  replace hbx := hbx.out ho2 (by first | omega | (simp only [blk_some, hi1_some] at *; omega))
  replace hE := hE.step ho2 (by first | omega | (simp only [blk_some, hi1_some] at *; omega))
  refine wp_seq ?_
  refine wp_seq ?_
  refine rg ?_
  refine st (mvI rfl) ?_
  refine st (mvI rfl) ?_
  refine st (y_lss rfl rfl) ?_
  refine rg_end ?_
  refine n_then ?_
  refine cnd rfl (fun hc0 => ?_) (fun hc0 => ?_)
  ·
    try simp only [decide_eq_true_eq, decide_eq_false_iff_not, Bool.not_eq_true', Bool.not_eq_false', Bool.and_eq_true, Bool.or_eq_true, Bool.or_eq_false_iff, Bool.cond_true_right, Bool.cond_false_right, Bool.cond_true_left, Bool.cond_false_left, ne_eq, Decidable.not_not, bne_iff_ne, beq_iff_eq, beq_eq_false_iff_ne, Bool.not_true, Bool.not_false] at hc0
    have hll := hll0
    have eu : el (rows.set u.toNat ⟨(el rows u).a, (el rows u).c, l⟩) u = ⟨(el rows u).a, (el rows u).c, l⟩ := elSetS u0 u1
    have hs := hT.rs.row u u0 (by rw [List.length_set]; exact u1)
    rw [eu] at hs
    dsimp only at hs
    have hsr := hs.rng
    have hlN : l.length = (el rows u).l.length := by omega
    refine wp_skip ?_
    refine n_then ?_
    refine wp_seq ?_
    refine wp_block ?_
    refine wp_seq ?_
    refine wp_seq ?_
    refine rg ?_
    refine st (mvS rfl) ?_
    refine st (mvI rfl) ?_
    refine st (y_ix hs.sl sl68 rfl (hlN.symm) rfl (by omega) (by omega)) ?_
    refine st (y_le hs.sl na4 rfl (by omega) (by omega) rfl) ?_
    refine st (y_not rfl) ?_
    refine rg_end ?_
    refine n_then ?_
    refine cnd rfl (fun hc1 => ?_) (fun hc1 => ?_)
    ·
      try simp only [decide_eq_true_eq, decide_eq_false_iff_not, Bool.not_eq_true', Bool.not_eq_false', Bool.and_eq_true, Bool.or_eq_true, Bool.or_eq_false_iff, Bool.cond_true_right, Bool.cond_false_right, Bool.cond_true_left, Bool.cond_false_left, ne_eq, Decidable.not_not, bne_iff_ne, beq_iff_eq, beq_eq_false_iff_ne, Bool.not_true, Bool.not_false] at hc1
      have hl1 : l.length = l.length := rfl
      refine wp_exit ?_
      refine e_then (e_blk (?_))
      refine n_then ?_
      refine rg ?_
      refine st (mvI rfl) ?_
      refine st (y_add rfl rfl (by omega)) ?_
      refine st (asI rfl) ?_
      refine rg_end ?_
      exact n_then ⟨(d + 1, _, _), _, rfl, same_lk rfl (same_h0), ⟨rfl, rfl, trivial⟩, ⟨hlp0, by omega, by first | exact hll0 | (simp; exact hll0), hT, by first | exact hst3 | exact hst2, by first | exact hbc | (intro _; omega), by omega⟩, by first | omega | (dsimp only; omega)⟩
    ·
      try simp only [decide_eq_true_eq, decide_eq_false_iff_not, Bool.not_eq_true', Bool.not_eq_false', Bool.and_eq_true, Bool.or_eq_true, Bool.or_eq_false_iff, Bool.cond_true_right, Bool.cond_false_right, Bool.cond_true_left, Bool.cond_false_left, ne_eq, Decidable.not_not, bne_iff_ne, beq_iff_eq, beq_eq_false_iff_ne, Bool.not_true, Bool.not_false] at hc1
      obtain ⟨la, hla⟩ : ∃ x, x = (el (rows.set u.toNat ⟨(el rows u).a, (el rows u).c, l⟩) v).l := ⟨_, rfl⟩
      obtain ⟨lb, hlb⟩ : ∃ x, x = (el (rows.set u.toNat ⟨(el rows u).a, (el rows u).c, l⟩) y).l := ⟨_, rfl⟩
      have ha : Ow 4 encB 1 z hi w1 (el rows v).a (el rows v).c la := by
        have h := hT.rs.row v y0 (by rw [List.length_set]; exact y1)
        by_cases q : v = u
        · subst q; rw [eu] at h hla; rw [hla]; exact h
        · rw [elSetN u0 y0 q] at h hla; rw [hla]; exact h
      have hb : Ow 4 encB 1 z hi w1 (el rows y).a (el rows y).c lb := by
        have h := hT.rs.row y y2 (by rw [List.length_set]; exact y3)
        by_cases q : y = u
        · subst q; rw [eu] at h hlb; rw [hlb]; exact h
        · rw [elSetN u0 y2 q] at h hlb; rw [hlb]; exact h
      have hlaN : (el rows v).l.length = la.length := by
        have h := hT.ln v y0 (by rw [List.length_set]; exact y1)
        rw [← hla] at h; omega
      have hlbN : (el rows y).l.length = lb.length := by
        have h := hT.ln y y2 (by rw [List.length_set]; exact y3)
        rw [← hlb] at h; omega
      refine wp_skip ?_
      refine n_then ?_
      refine wp_seq ?_
      refine rg ?_
      refine st (asB rfl) ?_
      refine rg_end ?_
      refine n_then ?_
      refine wp_seq ?_
      refine wp_seq ?_
      refine rg ?_
      refine st (asI rfl) ?_
      refine rg_end ?_
      refine n_then ?_
      refine wp_block ?_
      refine lp (γ := Nat × Bool) [12, 13, 29, 30, 31, 32, 33, 34, 35, 36, 37, 38, 39, 40, 41, 42, 43, 44, 45, 46, 47, 48, 49, 50, 51] (fun ⟨e, ok⟩ => [(13, .int .i64 (e : Int)), (12, .bool ok)]) (fun ⟨e, ok⟩ w_ => Ext w1 w_ ∧ (e : Int) ≤ P ∧ (ok = false → ∀ q : Nat, q < e → ¬ (el la (q : Int) = true ∧ el lb (((d : Int) - (q : Int)) % P) = true))) (fun ⟨e, ok⟩ => P.toNat - e) (0, false) ⟨rfl, rfl, trivial⟩ ⟨Out.refl _ _ _, by (try dsimp only); omega, (fun _ q hq => by omega)⟩ ?_
      rintro ⟨e, ok⟩ hav_ w4 ⟨ho5, heP, hnk⟩
      have hlp1 := ho5
      have hz6 := ho5.size
      replace hbx := hbx.ext ho5
      replace hE := hE.step ho5 (.inl (Nat.le_refl _))
      replace hT := hT.ext ho5
      replace hlp0 := hlp0.step ho5 (.inl (Nat.le_refl _))
      replace hs := hs.ext ho5
      replace ha := ha.ext ho5
      replace hb := hb.ext ho5
      refine wp_seq ?_
      refine wp_seq ?_
      refine rg ?_
      refine st (mvI rfl) ?_
      refine st (mvI rfl) ?_
      refine st (y_lss rfl rfl) ?_
      refine st (mvB rfl) ?_
      refine gspL 32 rfl (fun hg7 => ?_) (fun hg7 => ?_)
      ·
        have hg7n := hg7; try simp only [decide_eq_true_eq, decide_eq_false_iff_not, Bool.not_eq_true', Bool.not_eq_false', Bool.and_eq_true, Bool.or_eq_true, Bool.or_eq_false_iff, Bool.cond_true_right, Bool.cond_false_right, Bool.cond_true_left, Bool.cond_false_left, ne_eq, Decidable.not_not, bne_iff_ne, beq_iff_eq, beq_eq_false_iff_ne, Bool.not_true, Bool.not_false] at hg7n
        refine stg rfl rfl hg7 (mvB rfl) ?_
        refine stg rfl rfl hg7 (y_not rfl) ?_
        refine st (y_pickT rfl hg7 (v := .bool _) rfl) ?_
        refine rg_end ?_
        refine n_then ?_
        refine cnd rfl (fun hc2 => ?_) (fun hc2 => ?_)
        ·
          try simp only [decide_eq_true_eq, decide_eq_false_iff_not, Bool.not_eq_true', Bool.not_eq_false', Bool.and_eq_true, Bool.or_eq_true, Bool.or_eq_false_iff, Bool.cond_true_right, Bool.cond_false_right, Bool.cond_true_left, Bool.cond_false_left, ne_eq, Decidable.not_not, bne_iff_ne, beq_iff_eq, beq_eq_false_iff_ne, Bool.not_true, Bool.not_false] at hc2
          refine wp_skip ?_
          refine n_then ?_
          refine wp_seq ?_
          refine wp_block ?_
          refine rg ?_
          refine st (mvS rfl) ?_
          refine st (mvI rfl) ?_
          refine st (y_ix ha.sl sl68 rfl (hlaN) rfl (by omega) (by omega)) ?_
          refine st (y_le ha.sl na4 rfl (by omega) (by omega) rfl) ?_
          refine st (mvB rfl) ?_
          refine gspL 42 rfl (fun hg8 => ?_) (fun hg8 => ?_)
          ·
            have hg8n := hg8; try simp only [decide_eq_true_eq, decide_eq_false_iff_not, Bool.not_eq_true', Bool.not_eq_false', Bool.and_eq_true, Bool.or_eq_true, Bool.or_eq_false_iff, Bool.cond_true_right, Bool.cond_false_right, Bool.cond_true_left, Bool.cond_false_left, ne_eq, Decidable.not_not, bne_iff_ne, beq_iff_eq, beq_eq_false_iff_ne, Bool.not_true, Bool.not_false] at hg8n
            have hnk1 : el lb (((d : Int) - (e : Int)) % P) = false → ∀ q : Nat, q < e + 1 → ¬ (el la (q : Int) = true ∧ el lb (((d : Int) - (q : Int)) % P) = true) := fun h q hq => by
              by_cases qe : q = e
              · subst qe; rintro ⟨_, h2⟩; rw [h] at h2; cases h2
              · exact hnk hc2 q (by omega)
            refine stg rfl rfl hg8 (mvS rfl) ?_
            refine stg rfl rfl hg8 (mvI rfl) ?_
            refine stg rfl rfl hg8 (mvI rfl) ?_
            refine stg rfl rfl hg8 (y_sub rfl rfl (by omega)) ?_
            refine stg rfl rfl hg8 (mvI rfl) ?_
            have hm1 := Int.emod_nonneg ((d : Int) - (e : Int)) (b := P) (by omega)
            have hm2 := Int.emod_lt_of_pos ((d : Int) - (e : Int)) (b := P) (by omega)
            refine scg rfl rfl hg8 cl38 (ref1_Mod_ok _ _ _ (by omega) (by omega) (by omega)) rfl ?_
            rintro v13 w9 ⟨rfl, ho10⟩
            have hz14 := ho10.size
            replace hbx := hbx.ext ho10
            replace hE := hE.step ho10 (.inl (Nat.le_refl _))
            replace hT := hT.ext ho10
            replace hlp0 := hlp0.step ho10 (.inl (Nat.le_refl _))
            replace hs := hs.ext ho10
            replace ha := ha.ext ho10
            replace hb := hb.ext ho10
            replace hlp1 := hlp1.step ho10 (.inl (Nat.le_refl _))
            refine stg rfl rfl hg8 (y_ix hb.sl sl68 rfl (hlbN) rfl (by omega) (by omega)) ?_
            refine stg rfl rfl hg8 (y_le hb.sl na4 rfl (by omega) (by omega) rfl) ?_
            refine st (y_pickT rfl hg8 (v := .bool _) rfl) ?_
            refine st (asB rfl) ?_
            refine rg_end ?_
            refine n_blk ?_
            refine n_then ?_
            refine rg ?_
            refine st (mvI rfl) ?_
            refine st (y_add rfl rfl (by omega)) ?_
            refine st (asI rfl) ?_
            refine rg_end ?_
            exact n_then ⟨(e + 1, _), _, rfl, same_lk rfl (same_h0), ⟨rfl, rfl, trivial⟩, ⟨hlp1, by omega, hnk1⟩, by first | omega | (dsimp only; omega)⟩
          ·
            have hg8n := hg8; try simp only [decide_eq_true_eq, decide_eq_false_iff_not, Bool.not_eq_true', Bool.not_eq_false', Bool.and_eq_true, Bool.or_eq_true, Bool.or_eq_false_iff, Bool.cond_true_right, Bool.cond_false_right, Bool.cond_true_left, Bool.cond_false_left, ne_eq, Decidable.not_not, bne_iff_ne, beq_iff_eq, beq_eq_false_iff_ne, Bool.not_true, Bool.not_false] at hg8n
            have hnk1 : false = false → ∀ q : Nat, q < e + 1 → ¬ (el la (q : Int) = true ∧ el lb (((d : Int) - (q : Int)) % P) = true) := fun _ q hq => by
              by_cases qe : q = e
              · subst qe; rintro ⟨h1, _⟩; rw [hg8] at h1; cases h1
              · exact hnk hc2 q (by omega)
            refine sts rfl rfl hg8 ?_
            refine sts rfl rfl hg8 ?_
            refine sts rfl rfl hg8 ?_
            refine sts rfl rfl hg8 ?_
            refine sts rfl rfl hg8 ?_
            refine sts rfl rfl hg8 ?_
            refine sts rfl rfl hg8 ?_
            refine sts rfl rfl hg8 ?_
            refine st (y_pickF rfl hg8 (v := .bool _) rfl) ?_
            refine st (asB rfl) ?_
            refine rg_end ?_
            refine n_blk ?_
            refine n_then ?_
            refine rg ?_
            refine st (mvI rfl) ?_
            refine st (y_add rfl rfl (by omega)) ?_
            refine st (asI rfl) ?_
            refine rg_end ?_
            exact n_then ⟨(e + 1, _), _, rfl, same_lk rfl (same_h0), ⟨rfl, rfl, trivial⟩, ⟨hlp1, by omega, hnk1⟩, by first | omega | (dsimp only; omega)⟩
        ·
          try simp only [decide_eq_true_eq, decide_eq_false_iff_not, Bool.not_eq_true', Bool.not_eq_false', Bool.and_eq_true, Bool.or_eq_true, Bool.or_eq_false_iff, Bool.cond_true_right, Bool.cond_false_right, Bool.cond_true_left, Bool.cond_false_left, ne_eq, Decidable.not_not, bne_iff_ne, beq_iff_eq, beq_eq_false_iff_ne, Bool.not_true, Bool.not_false] at hc2
          refine wp_exit ?_
          refine e_then (e_then (e_blk (?_)))
          refine n_then ?_
          refine wp_seq ?_
          refine rg ?_
          refine st (mvB rfl) ?_
          refine st (y_not rfl) ?_
          refine rg_end ?_
          refine n_then ?_
          refine cnd rfl (fun hc3 => ?_) (fun hc3 => ?_)
          ·
            try simp only [decide_eq_true_eq, decide_eq_false_iff_not, Bool.not_eq_true', Bool.not_eq_false', Bool.and_eq_true, Bool.or_eq_true, Bool.or_eq_false_iff, Bool.cond_true_right, Bool.cond_false_right, Bool.cond_true_left, Bool.cond_false_left, ne_eq, Decidable.not_not, bne_iff_ne, beq_iff_eq, beq_eq_false_iff_ne, Bool.not_true, Bool.not_false] at hc3
            have hno : ∀ q : Nat, (q : Int) < P → ¬ (el la (q : Int) = true ∧ el lb (((d : Int) - (q : Int)) % P) = true) := fun q hq => by
              first
              | exact hnk hc3 q (by omega)
              | exact absurd (hc2.symm.trans hc3) (by decide)
            have hdl : el l (d : Int) = true := hc1
            have hne : fb → (d : Int) ≠ r u := fun hf he => by
              have hre := hrr v
              have h1 : el la (r v) = true := by rw [hla]; exact hst2 hf v y0 (by rw [List.length_set]; exact y1)
              have h2 : el lb (((d : Int) - r v) % P) = true := by rw [he, hsum, hlb]; exact hst2 hf y y2 (by rw [List.length_set]; exact y3)
              exact hno (r v).toNat (by omega) (by rw [Int.toNat_of_nonneg hre.1]; exact ⟨h1, h2⟩)
            have hcc := cnt_clear (l := l) (d := (d : Int)) (by omega) (by omega) hdl
            refine rg ?_
            refine st (mvS rfl) ?_
            refine st (mvI rfl) ?_
            refine st (y_ix hs.sl sl68 rfl (hlN.symm) rfl (by omega) (by omega)) ?_
            have hT0 := hT
            refine sd0 (d_se (j := 0) (e' := false) hs sz4 rfl rfl rfl (by omega) (by omega) (Nat.le_of_ble_eq_true rfl) rfl ?_)
            intro w15 hs16 hoW hs'
            have hrhs := hs.rng
            clear hs; have hs := hs'; clear hs'
            have hz17 := hoW.size
            replace hbx := hbx.out hoW (by first | omega | (simp only [blk_some, hi1_some] at *; omega))
            replace hE := hE.step hoW (by first | omega | (simp only [blk_some, hi1_some] at *; omega))
            replace hlp0 := hlp0.step hoW (by first | omega | (simp only [blk_some, hi1_some] at *; omega))
            have hT : Tab z hi w15 aw cw P (rows.set u.toNat ⟨(el rows u).a, (el rows u).c, l.set (d : Int).toNat false⟩) := by
              have h := hT0.upd (u := u) (l' := l.set (d : Int).toNat false) u0 (by rw [List.length_set]; exact u1) (by rw [eu]; exact hoW) (by rw [eu]; simp) (by rw [eu]; exact hs)
              rw [eu, List.set_set] at h; exact h
            have hst3 : Stay fb r (rows.set u.toNat ⟨(el rows u).a, (el rows u).c, l.set (d : Int).toNat false⟩) := by
              have h := hst.set (a := (el rows u).a) (c := (el rows u).c) (l' := l.set (d : Int).toNat false) u0 u1 (fun hf => by
                have h5 := hst2 hf u u0 (by rw [List.length_set]; exact u1)
                rw [eu] at h5
                rw [elSetN (by omega) (hrr u).1 (fun e => hne hf e.symm)]; exact h5)
              exact h
            refine st (asB rfl) ?_
            refine rg_end ?_
            refine n_blk ?_
            refine n_then ?_
            refine rg ?_
            refine st (mvI rfl) ?_
            refine st (y_add rfl rfl (by omega)) ?_
            refine st (asI rfl) ?_
            refine rg_end ?_
            exact n_then ⟨(d + 1, _, _), _, rfl, same_lk rfl (same_hav rfl (same_lk rfl (same_h0))), ⟨rfl, rfl, trivial⟩, ⟨hlp0, by omega, by first | exact hll0 | (simp; exact hll0), hT, by first | exact hst3 | exact hst2, by first | exact hbc | (intro _; omega), by omega⟩, by first | omega | (dsimp only; omega)⟩
          ·
            try simp only [decide_eq_true_eq, decide_eq_false_iff_not, Bool.not_eq_true', Bool.not_eq_false', Bool.and_eq_true, Bool.or_eq_true, Bool.or_eq_false_iff, Bool.cond_true_right, Bool.cond_false_right, Bool.cond_true_left, Bool.cond_false_left, ne_eq, Decidable.not_not, bne_iff_ne, beq_iff_eq, beq_eq_false_iff_ne, Bool.not_true, Bool.not_false] at hc3
            refine wp_skip ?_
            refine n_blk ?_
            refine n_then ?_
            refine rg ?_
            refine st (mvI rfl) ?_
            refine st (y_add rfl rfl (by omega)) ?_
            refine st (asI rfl) ?_
            refine rg_end ?_
            exact n_then ⟨(d + 1, _, _), _, rfl, same_lk rfl (same_hav rfl (same_lk rfl (same_h0))), ⟨rfl, rfl, trivial⟩, ⟨hlp0, by omega, by first | exact hll0 | (simp; exact hll0), hT, by first | exact hst3 | exact hst2, by first | exact hbc | (intro _; omega), by omega⟩, by first | omega | (dsimp only; omega)⟩
      ·
        have hg7n := hg7; try simp only [decide_eq_true_eq, decide_eq_false_iff_not, Bool.not_eq_true', Bool.not_eq_false', Bool.and_eq_true, Bool.or_eq_true, Bool.or_eq_false_iff, Bool.cond_true_right, Bool.cond_false_right, Bool.cond_true_left, Bool.cond_false_left, ne_eq, Decidable.not_not, bne_iff_ne, beq_iff_eq, beq_eq_false_iff_ne, Bool.not_true, Bool.not_false] at hg7n
        refine sts rfl rfl hg7 ?_
        refine sts rfl rfl hg7 ?_
        refine st (y_pickF rfl hg7 (v := .bool _) rfl) ?_
        refine rg_end ?_
        refine n_then ?_
        refine cnd rfl (fun hc2 => absurd hc2 (by decide)) (fun hc2 => ?_)
        refine wp_exit ?_
        refine e_then (e_then (e_blk (?_)))
        refine n_then ?_
        refine wp_seq ?_
        refine rg ?_
        refine st (mvB rfl) ?_
        refine st (y_not rfl) ?_
        refine rg_end ?_
        refine n_then ?_
        refine cnd rfl (fun hc3 => ?_) (fun hc3 => ?_)
        ·
          try simp only [decide_eq_true_eq, decide_eq_false_iff_not, Bool.not_eq_true', Bool.not_eq_false', Bool.and_eq_true, Bool.or_eq_true, Bool.or_eq_false_iff, Bool.cond_true_right, Bool.cond_false_right, Bool.cond_true_left, Bool.cond_false_left, ne_eq, Decidable.not_not, bne_iff_ne, beq_iff_eq, beq_eq_false_iff_ne, Bool.not_true, Bool.not_false] at hc3
          have hno : ∀ q : Nat, (q : Int) < P → ¬ (el la (q : Int) = true ∧ el lb (((d : Int) - (q : Int)) % P) = true) := fun q hq => by
            first
            | exact hnk hc3 q (by omega)
            | exact absurd (hc2.symm.trans hc3) (by decide)
          have hdl : el l (d : Int) = true := hc1
          have hne : fb → (d : Int) ≠ r u := fun hf he => by
            have hre := hrr v
            have h1 : el la (r v) = true := by rw [hla]; exact hst2 hf v y0 (by rw [List.length_set]; exact y1)
            have h2 : el lb (((d : Int) - r v) % P) = true := by rw [he, hsum, hlb]; exact hst2 hf y y2 (by rw [List.length_set]; exact y3)
            exact hno (r v).toNat (by omega) (by rw [Int.toNat_of_nonneg hre.1]; exact ⟨h1, h2⟩)
          have hcc := cnt_clear (l := l) (d := (d : Int)) (by omega) (by omega) hdl
          refine rg ?_
          refine st (mvS rfl) ?_
          refine st (mvI rfl) ?_
          refine st (y_ix hs.sl sl68 rfl (hlN.symm) rfl (by omega) (by omega)) ?_
          have hT0 := hT
          refine sd0 (d_se (j := 0) (e' := false) hs sz4 rfl rfl rfl (by omega) (by omega) (Nat.le_of_ble_eq_true rfl) rfl ?_)
          intro w18 hs19 hoW hs'
          have hrhs := hs.rng
          clear hs; have hs := hs'; clear hs'
          have hz20 := hoW.size
          replace hbx := hbx.out hoW (by first | omega | (simp only [blk_some, hi1_some] at *; omega))
          replace hE := hE.step hoW (by first | omega | (simp only [blk_some, hi1_some] at *; omega))
          replace hlp0 := hlp0.step hoW (by first | omega | (simp only [blk_some, hi1_some] at *; omega))
          have hT : Tab z hi w18 aw cw P (rows.set u.toNat ⟨(el rows u).a, (el rows u).c, l.set (d : Int).toNat false⟩) := by
            have h := hT0.upd (u := u) (l' := l.set (d : Int).toNat false) u0 (by rw [List.length_set]; exact u1) (by rw [eu]; exact hoW) (by rw [eu]; simp) (by rw [eu]; exact hs)
            rw [eu, List.set_set] at h; exact h
          have hst3 : Stay fb r (rows.set u.toNat ⟨(el rows u).a, (el rows u).c, l.set (d : Int).toNat false⟩) := by
            have h := hst.set (a := (el rows u).a) (c := (el rows u).c) (l' := l.set (d : Int).toNat false) u0 u1 (fun hf => by
              have h5 := hst2 hf u u0 (by rw [List.length_set]; exact u1)
              rw [eu] at h5
              rw [elSetN (by omega) (hrr u).1 (fun e => hne hf e.symm)]; exact h5)
            exact h
          refine st (asB rfl) ?_
          refine rg_end ?_
          refine n_blk ?_
          refine n_then ?_
          refine rg ?_
          refine st (mvI rfl) ?_
          refine st (y_add rfl rfl (by omega)) ?_
          refine st (asI rfl) ?_
          refine rg_end ?_
          exact n_then ⟨(d + 1, _, _), _, rfl, same_lk rfl (same_hav rfl (same_lk rfl (same_h0))), ⟨rfl, rfl, trivial⟩, ⟨hlp0, by omega, by first | exact hll0 | (simp; exact hll0), hT, by first | exact hst3 | exact hst2, by first | exact hbc | (intro _; omega), by omega⟩, by first | omega | (dsimp only; omega)⟩
        ·
          try simp only [decide_eq_true_eq, decide_eq_false_iff_not, Bool.not_eq_true', Bool.not_eq_false', Bool.and_eq_true, Bool.or_eq_true, Bool.or_eq_false_iff, Bool.cond_true_right, Bool.cond_false_right, Bool.cond_true_left, Bool.cond_false_left, ne_eq, Decidable.not_not, bne_iff_ne, beq_iff_eq, beq_eq_false_iff_ne, Bool.not_true, Bool.not_false] at hc3
          refine wp_skip ?_
          refine n_blk ?_
          refine n_then ?_
          refine rg ?_
          refine st (mvI rfl) ?_
          refine st (y_add rfl rfl (by omega)) ?_
          refine st (asI rfl) ?_
          refine rg_end ?_
          exact n_then ⟨(d + 1, _, _), _, rfl, same_lk rfl (same_hav rfl (same_lk rfl (same_h0))), ⟨rfl, rfl, trivial⟩, ⟨hlp0, by omega, by first | exact hll0 | (simp; exact hll0), hT, by first | exact hst3 | exact hst2, by first | exact hbc | (intro _; omega), by omega⟩, by first | omega | (dsimp only; omega)⟩
  ·
    try simp only [decide_eq_true_eq, decide_eq_false_iff_not, Bool.not_eq_true', Bool.not_eq_false', Bool.and_eq_true, Bool.or_eq_true, Bool.or_eq_false_iff, Bool.cond_true_right, Bool.cond_false_right, Bool.cond_true_left, Bool.cond_false_left, ne_eq, Decidable.not_not, bne_iff_ne, beq_iff_eq, beq_eq_false_iff_ne, Bool.not_true, Bool.not_false] at hc0
    refine wp_exit ?_
    refine e_then (e_then (e_blk (?_)))
    refine n_then ?_
    refine wp_seq ?_
    refine rg ?_
    refine st (mvB rfl) ?_
    refine st (asB rfl) ?_
    refine rg_end ?_
    refine n_then ?_
    refine wp_ret ?_
    refine ret1 (v := (.bool _)) Try.results60 rfl ?_
    exact ⟨b, l, rfl, hT, hst2, hbc, hcl, hE⟩
end Go.Proofs.Ytdbiapbdmmkfjaa
