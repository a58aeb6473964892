/-
  Walks of the functions, printed by a program out of the code and the loops' relations.
-/
import Derived.Test.YteicgnmggkhlbaaWkS
import Derived.Test.YteicgnmggkhlbaaProg
import Derived.KernelRfl
import Derived.Test.YteicgnmggkhlbaaP8
namespace Go.Proofs.Yteicgnmggkhlbaa
open Go.Wk Go.RowKit
set_option linter.unusedVariables false
set_option linter.unusedSimpArgs false
theorem bld59_0_1_2 (q0 : Option Addr) (m1 : Option Nat) (a2 : Int) (w : World) : (Instr.build 59 [(0, (.pointer q0)), (1, (.map m1)), (2, (.int .i64 a2))].toArray).run Try.prog w = .ok (.agg [(.pointer q0), (.map m1), (.int .i64 a2), .slice none 0 0].toArray) w := by kernel_rfl

theorem hel_nx {rows : List Pw} {at_ : List Int} (hva : VaP rows) (hg : GoP rows at_) (hnh : ¬ Hel rows at_) {t : Nat} (ht : t < rows.length) (hm : movB rows at_ (t : Int) = true) : ¬ Hel rows (nxA at_ t) := hel_move hva hnh ht (by have := hg.len; omega) (hg.rng t ht).1 hm
theorem dead_examine_ok (rows : List Pw) (ap : Option Addr) (cp l_ h_ bst bm bs : Nat) (B : Int) (hva : VaP rows) (hlb : h_ ≤ bst) (hB1 : B ≤ 1048576) : ∀ (m : Nat) (S : List (List Int)) (at_ pl : List Int) (w : World), PIn l_ h_ w ap rows → DMem bst bm bs w rows ap cp B S at_ pl → GoP rows at_ → ¬ Hel rows at_ → ¬ at_ ∈ S → remT rows at_ rows.length ≤ m → pl.length + remT rows at_ rows.length ≤ 700 →
    Cal Try.prog 38 [.pointer (some ⟨bs, 0, none⟩)] w (fun v w' => ∃ at', v = .int .i64 (exm rows B m S at_).c ∧ DMem bst bm bs w' rows ap cp B (exm rows B m S at_).seen at' (pl ++ (exm rows B m S at_).plan) ∧ ((exm rows B m S at_).c = 19 → at' = at_ ∧ (exm rows B m S at_).plan = []) ∧ Out bst w.heap.size w w')
  | 0, S, at_, pl, w, hP, hM, hg, hnh, hni, hrm, hpm => dead_examB_ok rows ap cp l_ h_ bst bm bs B S at_ pl _ w hP hM hva hg hnh hlb hni hB1 (by omega) (fun t S' w' ht hm _ _ _ => absurd (rem_pos (movB_lt hm) rows.length ht) (by omega))
  | m + 1, S, at_, pl, w, hP, hM, hg, hnh, hni, hrm, hpm => dead_examB_ok rows ap cp l_ h_ bst bm bs B S at_ pl _ w hP hM hva hg hnh hlb hni hB1 (by omega) (fun t S' w' ht hm hn hP' hM' => by
      have h1 := (rem_nx hg ht hm rows.length).1 ht
      exact dead_examine_ok rows ap cp l_ h_ bst bm bs B hva hlb hB1 m S' (nxA at_ t) (pl ++ [(t : Int)]) w' hP' hM' (hg.nx ht hm) (hel_nx hva hg hnh ht hm) hn (by omega) (by rw [List.length_append]; simp; omega))
def srR (R : Ex) : List Int × Int × Int := if R.c = 0 then (R.plan, (R.seen.length : Int), 0) else if R.c = 19 then ([], (R.seen.length : Int), 19) else ([], 0, R.c)
/-- What Search hands back; 'e0' is what Check says. -/
def srF (rows : List Pw) (at_ : List Int) (B e0 : Int) : List Int × Int × Int := if e0 ≠ 0 then ([], 0, e0) else if B < 1 ∨ 1048576 < B then ([], 0, 4) else srR (exm rows B (remT rows at_ rows.length) [] at_)

set_option maxHeartbeats 1000000 in
set_option maxRecDepth 100000 in
theorem dead_Search_ok (rows : List Pw) (ap : Option Addr) (cp l_ h_ : Nat) (at_ : List Int) (aa : Option Addr) (ca la ha_ : Nat) (B : Int) (w : World) (hP : PIn l_ h_ w ap rows) (hpn : (rows.length : Int) ≤ 9223372036854775807) (hA : Ints la ha_ w aa at_) (hln : ∀ r ∈ rows, (r.st.length : Int) ≤ 9223372036854775807 ∧ ∀ s ∈ r.st, (s.pts.length : Int) ≤ 9223372036854775807) (han : (at_.length : Int) ≤ 9223372036854775807) : Cal Try.prog 17 [.slice ap rows.length cp, .slice aa at_.length ca, .int .i64 B] w (fun v w' => ∃ ad c l n e e0, v = .tuple #[.slice ad l.length c, .int .i64 n, .int .i64 e] ∧ CkR rows at_ e0 ∧ (l, n, e) = srF rows at_ B e0 ∧ Ow 3 encI 1 w.heap.size w'.heap.size w' ad c l ∧ Ext w w') := by
  replace hP := hP.full
  replace hA := Ints.full hA
  have hE : Out 0 0 w w := Out.refl _ _ w
  refine enter Try.func17 rfl Try.ntmps17 rfl ?_
  refine wp_seq ?_
  refine rg ?_
  refine st (asS rfl) ?_
  refine st (asI rfl) ?_
  refine st (asI rfl) ?_
  refine rg_end ?_
  refine n_then ?_
  refine wp_seq ?_
  refine wp_seq ?_
  refine rg ?_
  refine st (mvS rfl) ?_
  refine st (mvS rfl) ?_
  refine sc cl31 (dead_Check_ok rows _ _ _ _ at_ _ _ _ _ _ hP hpn hA hln han) rfl ?_
  rintro v5 w1 ⟨e, rfl, hck, ho2⟩
  have hz6 := ho2.size
  replace hP := hP.ext ho2
  replace hA := hA.ext ho2
  replace hE := hE.step ho2 (.inl (Nat.le_refl _))
  refine st (asI rfl) ?_
  refine rg_end ?_
  refine n_then ?_
  refine wp_seq ?_
  refine rg ?_
  refine st (mvI rfl) ?_
  refine st (y_neq rfl rfl) ?_
  refine rg_end ?_
  refine n_then ?_
  refine cnd rfl (fun hc0 => ?_) (fun hc0 => ?_)
  ·
    try simp only [decide_eq_true_eq, decide_eq_false_iff_not, Bool.not_eq_true', Bool.not_eq_false', Bool.and_eq_true, Bool.or_eq_true, Bool.or_eq_false_iff, Bool.cond_true_right, Bool.cond_false_right, Bool.cond_true_left, Bool.cond_false_left, ne_eq, Decidable.not_not, bne_iff_ne, beq_iff_eq, beq_eq_false_iff_ne, Bool.not_true, Bool.not_false] at hc0
    refine wp_seq ?_
    refine rg ?_
    refine st (mvI rfl) ?_
    refine st (asS rfl) ?_
    refine st (asI rfl) ?_
    refine st (asI rfl) ?_
    refine rg_end ?_
    refine n_then ?_
    refine wp_ret ?_
    refine r_then (ret3 (v := (.slice _ _ _)) (v' := (.int .i64 _)) (v'' := (.int .i64 _)) Try.results17 rfl rfl rfl ?_)
    exact ⟨none, 0, [], 0, e, _, rfl, hck, (by unfold srF; rw [if_pos hc0]), Ow.nil (fun _ => rfl), hE⟩
  ·
    try simp only [decide_eq_true_eq, decide_eq_false_iff_not, Bool.not_eq_true', Bool.not_eq_false', Bool.and_eq_true, Bool.or_eq_true, Bool.or_eq_false_iff, Bool.cond_true_right, Bool.cond_false_right, Bool.cond_true_left, Bool.cond_false_left, ne_eq, Decidable.not_not, bne_iff_ne, beq_iff_eq, beq_eq_false_iff_ne, Bool.not_true, Bool.not_false] at hc0
    have hck0 := hck
    rw [hc0] at hck0
    obtain ⟨hva, hg, hnh⟩ := hck0.ok
    have hrl := hva.len
    have hl := hg.len
    refine wp_skip ?_
    refine n_then ?_
    refine wp_seq ?_
    refine wp_seq ?_
    refine rg ?_
    refine st (mvI rfl) ?_
    refine st (y_lss rfl rfl) ?_
    refine st (mvB rfl) ?_
    refine gspL 20 rfl (fun hg7 => ?_) (fun hg7 => ?_)
    ·
      have hg7n := hg7; try simp only [decide_eq_true_eq, decide_eq_false_iff_not, Bool.not_eq_true', Bool.not_eq_false', Bool.and_eq_true, Bool.or_eq_true, Bool.or_eq_false_iff, Bool.cond_true_right, Bool.cond_false_right, Bool.cond_true_left, Bool.cond_false_left, ne_eq, Decidable.not_not, bne_iff_ne, beq_iff_eq, beq_eq_false_iff_ne, Bool.not_true, Bool.not_false] at hg7n
      refine sts rfl rfl hg7 ?_
      refine sts rfl rfl hg7 ?_
      refine st (y_pickT rfl hg7 (v := .bool _) rfl) ?_
      refine rg_end ?_
      refine n_then ?_
      refine cnd rfl (fun hc1 => ?_) (fun hc1 => absurd hc1 (by decide))
      have hBr : B < 1 ∨ 1048576 < B := by omega
      refine wp_seq ?_
      refine rg ?_
      refine st (asS rfl) ?_
      refine st (asI rfl) ?_
      refine st (asI rfl) ?_
      refine rg_end ?_
      refine n_then ?_
      refine wp_ret ?_
      refine r_then (ret3 (v := (.slice _ _ _)) (v' := (.int .i64 _)) (v'' := (.int .i64 _)) Try.results17 rfl rfl rfl ?_)
      exact ⟨none, 0, [], 0, 4, _, rfl, hck, (by unfold srF; rw [if_neg (fun q => q hc0), if_pos hBr]), Ow.nil (fun _ => rfl), hE⟩
    ·
      have hg7n := hg7; try simp only [decide_eq_true_eq, decide_eq_false_iff_not, Bool.not_eq_true', Bool.not_eq_false', Bool.and_eq_true, Bool.or_eq_true, Bool.or_eq_false_iff, Bool.cond_true_right, Bool.cond_false_right, Bool.cond_true_left, Bool.cond_false_left, ne_eq, Decidable.not_not, bne_iff_ne, beq_iff_eq, beq_eq_false_iff_ne, Bool.not_true, Bool.not_false] at hg7n
      refine stg rfl rfl hg7 (mvI rfl) ?_
      refine stg rfl rfl hg7 (y_gtr rfl rfl) ?_
      refine st (y_pickF rfl hg7 (v := .bool _) rfl) ?_
      refine rg_end ?_
      refine n_then ?_
      refine cnd rfl (fun hc1 => ?_) (fun hc1 => ?_)
      ·
        try simp only [decide_eq_true_eq, decide_eq_false_iff_not, Bool.not_eq_true', Bool.not_eq_false', Bool.and_eq_true, Bool.or_eq_true, Bool.or_eq_false_iff, Bool.cond_true_right, Bool.cond_false_right, Bool.cond_true_left, Bool.cond_false_left, ne_eq, Decidable.not_not, bne_iff_ne, beq_iff_eq, beq_eq_false_iff_ne, Bool.not_true, Bool.not_false] at hc1
        have hBr : B < 1 ∨ 1048576 < B := by omega
        refine wp_seq ?_
        refine rg ?_
        refine st (asS rfl) ?_
        refine st (asI rfl) ?_
        refine st (asI rfl) ?_
        refine rg_end ?_
        refine n_then ?_
        refine wp_ret ?_
        refine r_then (ret3 (v := (.slice _ _ _)) (v' := (.int .i64 _)) (v'' := (.int .i64 _)) Try.results17 rfl rfl rfl ?_)
        exact ⟨none, 0, [], 0, 4, _, rfl, hck, (by unfold srF; rw [if_neg (fun q => q hc0), if_pos hBr]), Ow.nil (fun _ => rfl), hE⟩
      ·
        try simp only [decide_eq_true_eq, decide_eq_false_iff_not, Bool.not_eq_true', Bool.not_eq_false', Bool.and_eq_true, Bool.or_eq_true, Bool.or_eq_false_iff, Bool.cond_true_right, Bool.cond_false_right, Bool.cond_true_left, Bool.cond_false_left, ne_eq, Decidable.not_not, bne_iff_ne, beq_iff_eq, beq_eq_false_iff_ne, Bool.not_true, Bool.not_false] at hc1
        have hBr : ¬ (B < 1 ∨ 1048576 < B) := by omega
        refine wp_skip ?_
        refine n_then ?_
        refine wp_seq ?_
        refine rg ?_
        refine st (mvS rfl) ?_
        refine st (mvS rfl) ?_
        refine sc cl37 (dead_newState_ok rows _ _ _ _ at_ _ _ _ _ _ hP hpn hA hva hg) rfl ?_
        rintro v12 w8 ⟨bst, H, rfl, hbz, hbst, hHq, ho9⟩
        have hbl := hbst.lt
        have hz13 := ho9.size
        replace hP := hP.ext ho9
        replace hA := hA.ext ho9
        replace hE := hE.step ho9 (.inl (Nat.le_refl _))
        refine sd (d_map (kt := 76) (enc := enc8) ?_)
        intro bm w14 hbbm hs16 ho15 hmp
        have hz17 := ho15.size
        replace hP := hP.ext ho15
        replace hA := hA.ext ho15
        replace hE := hE.step ho15 (.inl (Nat.le_refl _))
        replace hbst := hbst.ext ho15
        refine st (mvI rfl) ?_
        refine st (y_build (bld59_0_1_2 _ _ _ _) rfl) ?_
        refine sd (d_boxA rfl ?_)
        intro bs w18 hbbs hs20 ho19 hbs
        have hz21 := ho19.size
        replace hP := hP.ext ho19
        replace hA := hA.ext ho19
        replace hE := hE.step ho19 (.inl (Nat.le_refl _))
        replace hbst := hbst.ext ho19
        replace hmp := hmp.ext ho19
        refine st (asP rfl) ?_
        refine rg_end ?_
        refine n_then ?_
        refine wp_seq ?_
        refine rg ?_
        refine st (mvP rfl) ?_
        have hrm := rem_le hva hg rows.length (Nat.le_refl _)
        have hM1 : DMem bst bm bs w18 rows ap cp B [] at_ [] := ⟨H, none, 0, hbs, hbst, hHq, hmp, Ow.nil (fun _ => rfl), by simp; omega, by simp, by omega, by omega, by omega⟩
        clear hbs hbst hmp
        refine sc cl38 (dead_examine_ok rows ap cp _ _ bst bm bs B hva (by omega) (by omega) (remT rows at_ rows.length) [] at_ [] _ hP hM1 hg hnh (by simp) (Nat.le_refl _) (by simp; omega)) rfl ?_
        rintro v26 w22 ⟨at2, rfl, hM2, hat2, ho23⟩
        obtain ⟨H2, mad, mc, hbs, hbst, hHq2, hmp, hmv, hSl, hSn, d1, d2, d3⟩ := hM2.ex
        have hsm : (((exm rows B (remT rows at_ rows.length) [] at_).seen.map pad).length) = (exm rows B (remT rows at_ rows.length) [] at_).seen.length := List.length_map ..
        have hz27 := ho23.size
        replace hP := hP.out ho23 (by first | omega | (simp only [blk_some, hi1_some] at *; omega))
        replace hA := hA.out ho23 (by first | omega | (simp only [blk_some, hi1_some] at *; omega))
        replace hE := hE.step ho23 (by first | omega | (simp only [blk_some, hi1_some] at *; omega))
        refine st (asI rfl) ?_
        refine rg_end ?_
        refine n_then ?_
        refine wp_seq ?_
        refine rg ?_
        refine st (mvI rfl) ?_
        refine rg_end ?_
        refine n_then ?_
        refine wp_block ?_
        refine wp_seq ?_
        refine rg ?_
        refine st (y_eql rfl rfl) ?_
        refine st (asB rfl) ?_
        refine rg_end ?_
        refine n_then ?_
        refine cnd rfl (fun hc2 => ?_) (fun hc2 => ?_)
        ·
          try simp only [decide_eq_true_eq, decide_eq_false_iff_not, Bool.not_eq_true', Bool.not_eq_false', Bool.and_eq_true, Bool.or_eq_true, Bool.or_eq_false_iff, Bool.cond_true_right, Bool.cond_false_right, Bool.cond_true_left, Bool.cond_false_left, ne_eq, Decidable.not_not, bne_iff_ne, beq_iff_eq, beq_eq_false_iff_ne, Bool.not_true, Bool.not_false] at hc2
          refine wp_seq ?_
          refine rgD 9 (fun w_ => Ext w22 w_) (fun i => false) mixed (by kernel_rfl) ?_
          intro w28 ho29 hs30
          refine ⟨ho29, ?_⟩
          have hx31 := ho29
          refine tn rfl (fun _ hG => mvP rfl) ?_
          refine tn rfl (fun _ hG => y_nil rfl) ?_
          refine tn rfl (fun _ hG => y_fld fld59_3 rfl) ?_
          refine tn rfl (fun _ hG => y_lb (hbs.ext hG) na22 rfl rfl) ?_
          refine tn rfl (fun _ hG => mvP rfl) ?_
          refine tn rfl (fun _ hG => y_nil rfl) ?_
          refine tn rfl (fun _ hG => y_fld fld59_1 rfl) ?_
          refine tn rfl (fun _ hG => y_lb (hbs.ext hG) na57 rfl rfl) ?_
          refine tn rfl (fun _ hG => y_lenM (hmp.ext hG) Try.underlying57 rfl rfl) ?_
          refine t_end ?_
          have hz32 := hx31.size
          replace hP := hP.ext hx31
          replace hA := hA.ext hx31
          replace hE := hE.step hx31 (.inl (Nat.le_refl _))
          replace hbs := hbs.ext hx31
          replace hbst := hbst.ext hx31
          replace hmp := hmp.ext hx31
          replace hmv := hmv.ext hx31
          refine st (asS rfl) ?_
          refine st (asI rfl) ?_
          refine st (asI rfl) ?_
          refine rg_end ?_
          refine n_then ?_
          refine wp_ret ?_
          refine r_blk (ret3 (v := (.slice _ _ _)) (v' := (.int .i64 _)) (v'' := (.int .i64 _)) Try.results17 rfl rfl rfl ?_)
          exact ⟨mad, mc, (exm rows B (remT rows at_ rows.length) [] at_).plan, _, 0, _, rfl, hck, by unfold srF srR; rw [if_neg (fun q => q hc0), if_neg hBr, if_pos hc2, hsm], (hmv.lower (by omega)).wide (by omega), hE⟩
        ·
          try simp only [decide_eq_true_eq, decide_eq_false_iff_not, Bool.not_eq_true', Bool.not_eq_false', Bool.and_eq_true, Bool.or_eq_true, Bool.or_eq_false_iff, Bool.cond_true_right, Bool.cond_false_right, Bool.cond_true_left, Bool.cond_false_left, ne_eq, Decidable.not_not, bne_iff_ne, beq_iff_eq, beq_eq_false_iff_ne, Bool.not_true, Bool.not_false] at hc2
          refine wp_seq ?_
          refine rg ?_
          refine st (y_eql rfl rfl) ?_
          refine st (asB rfl) ?_
          refine rg_end ?_
          refine n_then ?_
          refine cnd rfl (fun hc3 => ?_) (fun hc3 => ?_)
          ·
            try simp only [decide_eq_true_eq, decide_eq_false_iff_not, Bool.not_eq_true', Bool.not_eq_false', Bool.and_eq_true, Bool.or_eq_true, Bool.or_eq_false_iff, Bool.cond_true_right, Bool.cond_false_right, Bool.cond_true_left, Bool.cond_false_left, ne_eq, Decidable.not_not, bne_iff_ne, beq_iff_eq, beq_eq_false_iff_ne, Bool.not_true, Bool.not_false] at hc3
            refine wp_seq ?_
            refine rg ?_
            refine st (mvP rfl) ?_
            refine st (y_nil rfl) ?_
            refine st (y_fld fld59_1 rfl) ?_
            refine st (y_lb hbs na57 rfl rfl) ?_
            refine st (y_lenM hmp Try.underlying57 rfl rfl) ?_
            refine st (asS rfl) ?_
            refine st (asI rfl) ?_
            refine st (asI rfl) ?_
            refine rg_end ?_
            refine n_then ?_
            refine wp_ret ?_
            refine r_blk (ret3 (v := (.slice _ _ _)) (v' := (.int .i64 _)) (v'' := (.int .i64 _)) Try.results17 rfl rfl rfl ?_)
            exact ⟨none, 0, [], _, 19, _, rfl, hck, by unfold srF srR; rw [if_neg (fun q => q hc0), if_neg hBr, if_neg hc2, if_pos hc3, hsm], Ow.nil (fun _ => rfl), hE⟩
          ·
            try simp only [decide_eq_true_eq, decide_eq_false_iff_not, Bool.not_eq_true', Bool.not_eq_false', Bool.and_eq_true, Bool.or_eq_true, Bool.or_eq_false_iff, Bool.cond_true_right, Bool.cond_false_right, Bool.cond_true_left, Bool.cond_false_left, ne_eq, Decidable.not_not, bne_iff_ne, beq_iff_eq, beq_eq_false_iff_ne, Bool.not_true, Bool.not_false] at hc3
            refine wp_seq ?_
            refine rg ?_
            refine st (mvI rfl) ?_
            refine st (asS rfl) ?_
            refine st (asI rfl) ?_
            refine st (asI rfl) ?_
            refine rg_end ?_
            refine n_then ?_
            refine wp_ret ?_
            refine r_blk (ret3 (v := (.slice _ _ _)) (v' := (.int .i64 _)) (v'' := (.int .i64 _)) Try.results17 rfl rfl rfl ?_)
            exact ⟨none, 0, [], 0, _, _, rfl, hck, by unfold srF srR; rw [if_neg (fun q => q hc0), if_neg hBr, if_neg hc2, if_neg hc3], Ow.nil (fun _ => rfl), hE⟩
end Go.Proofs.Yteicgnmggkhlbaa
