/-
  Walks of the functions, printed by a program out of the code and the loops' relations.
-/
import Derived.Test.YteicgnmggkhlbaaWkG
import Derived.Test.YteicgnmggkhlbaaProg
import Derived.KernelRfl
import Derived.Test.YteicgnmggkhlbaaP11
namespace Go.Proofs.Yteicgnmggkhlbaa
open Go.Wk Go.RowKit
set_option linter.unusedVariables false
set_option linter.unusedSimpArgs false
theorem bld68_0_1 (d0 : Option Addr) (l0 : Nat) (c0 : Nat) (a1 : Int) (w : World) : (Instr.build 68 [(0, (.slice d0 l0 c0)), (1, (.int .i64 a1))].toArray).run Try.prog w = .ok (.agg [(.slice d0 l0 c0), (.int .i64 a1), .int .i64 0, .slice none 0 0, .slice none 0 0].toArray) w := by kernel_rfl
theorem bsl22_0  (w : World) : (Instr.buildSlice 22 0 [].toArray).run Try.prog w = .ok (.slice (some ⟨w.heap.size, 0, none⟩) 0 0) (w.alloc (.cells [].toArray 3)) := by kernel_rfl
theorem cl17 : Callable Try.prog 17 := ⟨Try.call17⟩
theorem cl29 : Callable Try.prog 29 := ⟨Try.call29⟩
theorem cl41 : Callable Try.prog 41 := ⟨Try.call41⟩

theorem ref35_examine_ok (rows : List Pw) (ap : Option Addr) (cp l_ h_ bs : Nat) (B : Int) (hva : VaP rows) (hlb : h_ ≤ bs) (hB1 : B ≤ 1048576) : ∀ (m : Nat) (S : List (List Int)) (K : List Rw) (at_ pl : List Int) (aa : Option Addr) (ca m1 : Nat) (w : World), PIn l_ h_ w ap rows → RMe bs w rows ap cp B (S.length : Int) S K pl → ⟨aa, ca, at_⟩ ∈ K → m1 = at_.length → GoP rows at_ → remT rows at_ rows.length ≤ m → pl.length + remT rows at_ rows.length ≤ 700 →
    Cal Try.prog 44 [.pointer (some ⟨bs, 0, none⟩), .slice aa m1 ca] w (fun v w' => v = .bool (decide ((exm rows B m S at_).c = 0)) ∧ RMe bs w' rows ap cp B (usR B (exm rows B m S at_)) (exm rows B m S at_).seen K (plR (exm rows B m S at_) pl) ∧ Out bs w.heap.size w w')
  | 0, S, K, at_, pl, aa, ca, m1, w, hP, hM, hK, hm, hg, hrm, hpm => ref35_examB_ok rows ap cp l_ h_ bs B S K at_ pl aa ca m1 _ w hP hM hK hm hva hg hlb hB1 (by omega) (fun _ _ => .inr (.inr rfl)) (fun t S' aa' ca' m' w' ht hm _ _ _ _ => absurd (rem_pos (movB_lt hm) rows.length ht) (by omega))
  | m + 1, S, K, at_, pl, aa, ca, m1, w, hP, hM, hK, hm, hg, hrm, hpm => ref35_examB_ok rows ap cp l_ h_ bs B S K at_ pl aa ca m1 _ w hP hM hK hm hva hg hlb hB1 (by omega) (exm_c m) (fun t S' aa' ca' m' w' ht hmv hn hP' hm' hM' => by
      have h1 := (rem_nx hg ht hmv rows.length).1 ht
      exact ref35_examine_ok rows ap cp l_ h_ bs B hva hlb hB1 m S' _ (nxA at_ t) (pl ++ [(t : Int)]) aa' ca' m' w' hP' hM' List.mem_cons_self hm' (hg.nx ht hmv) (by omega) (by rw [List.length_append]; simp; omega))
theorem RowS.low {bs tp lo hi : Nat} {w : World} {r : Rw} (h : Sl encI 1 lo hi w r.a r.l) (h1 : hi ≤ bs) (h2 : hi ≤ tp) : RowS bs tp w none none r := by
  cases e : r.l with
  | nil => exact ⟨0, 0, ⟨fun q => absurd e q, fun i x hx => by rw [e] at hx; simp at hx⟩, by omega, .inl rfl⟩
  | cons a b =>
    have hp := h.plain (by rw [e]; simp)
    refine ⟨blk r.a, blk r.a + 1, ⟨fun _ => ⟨hp.1, by omega, by omega⟩, h.cell⟩, by omega, .inr ⟨rfl, by omega, .inl (Nat.zero_le _), .inl (Nat.zero_le _)⟩⟩
/-- What Admit hands back. -/
def adF (rows : List Pw) (at_ : List Int) (tr B e0 : Int) : Int × Int := if e0 ≠ 0 then (0, e0) else if tr < 0 ∨ (rows.length : Int) ≤ tr ∨ B < 1 ∨ 1048576 < B then (0, 4) else if movB rows at_ tr = true then (srF rows (nxA at_ tr.toNat) B 0).2 else (0, 16)

set_option maxHeartbeats 1000000 in
set_option maxRecDepth 100000 in
theorem ref35_Search_ok (rows : List Pw) (ap : Option Addr) (cp l_ h_ : Nat) (at_ : List Int) (aa : Option Addr) (ca la ha_ : Nat) (B : Int) (w : World) (hP : PIn l_ h_ w ap rows) (hpn : (rows.length : Int) ≤ 9223372036854775807) (hA : Ints la ha_ w aa at_) (hln : ∀ r ∈ rows, (r.st.length : Int) ≤ 9223372036854775807 ∧ ∀ s ∈ r.st, (s.pts.length : Int) ≤ 9223372036854775807) (han : (at_.length : Int) ≤ 9223372036854775807) : Cal Try.prog 29 [.slice ap rows.length cp, .slice aa at_.length ca, .int .i64 B] w (fun v w' => ∃ ad c l n e e0, v = .tuple #[.slice ad l.length c, .int .i64 n, .int .i64 e] ∧ CkR rows at_ e0 ∧ (l, n, e) = srF rows at_ B e0 ∧ Ow 3 encI 1 w.heap.size w'.heap.size w' ad c l ∧ Ext w w') := by
  replace hP := hP.full
  replace hA := Ints.full hA
  have hE : Out 0 0 w w := Out.refl _ _ w
  refine enter Try.func29 rfl Try.ntmps29 rfl ?_
  refine wp_seq ?_
  refine rg ?_
  refine st (asS rfl) ?_
  refine st (asI rfl) ?_
  refine st (asI rfl) ?_
  refine rg_end ?_
  refine n_then ?_
  refine wp_seq ?_
  refine wp_seq ?_
  refine rg ?_
  refine st (mvS rfl) ?_
  refine st (mvS rfl) ?_
  refine sc cl15 (ref35_CheckState_ok rows _ _ _ _ at_ _ _ _ _ _ hP hpn hA hln han) rfl ?_
  rintro v5 w1 ⟨e, rfl, hck, ho2⟩
  have hz6 := ho2.size
  replace hP := hP.ext ho2
  replace hA := hA.ext ho2
  replace hE := hE.step ho2 (.inl (Nat.le_refl _))
  refine st (asI rfl) ?_
  refine rg_end ?_
  refine n_then ?_
  refine wp_seq ?_
  refine rg ?_
  refine st (mvI rfl) ?_
  refine st (y_neq rfl rfl) ?_
  refine rg_end ?_
  refine n_then ?_
  refine cnd rfl (fun hc0 => ?_) (fun hc0 => ?_)
  ·
    try simp only [decide_eq_true_eq, decide_eq_false_iff_not, Bool.not_eq_true', Bool.not_eq_false', Bool.and_eq_true, Bool.or_eq_true, Bool.or_eq_false_iff, Bool.cond_true_right, Bool.cond_false_right, Bool.cond_true_left, Bool.cond_false_left, ne_eq, Decidable.not_not, bne_iff_ne, beq_iff_eq, beq_eq_false_iff_ne, Bool.not_true, Bool.not_false] at hc0
    refine wp_seq ?_
    refine rg ?_
    refine st (mvI rfl) ?_
    refine st (asS rfl) ?_
    refine st (asI rfl) ?_
    refine st (asI rfl) ?_
    refine rg_end ?_
    refine n_then ?_
    refine wp_ret ?_
    refine r_then (ret3 (v := (.slice _ _ _)) (v' := (.int .i64 _)) (v'' := (.int .i64 _)) Try.results29 rfl rfl rfl ?_)
    exact ⟨none, 0, [], 0, e, _, rfl, hck, (by unfold srF; rw [if_pos hc0]), Ow.nil (fun _ => rfl), hE⟩
  ·
    try simp only [decide_eq_true_eq, decide_eq_false_iff_not, Bool.not_eq_true', Bool.not_eq_false', Bool.and_eq_true, Bool.or_eq_true, Bool.or_eq_false_iff, Bool.cond_true_right, Bool.cond_false_right, Bool.cond_true_left, Bool.cond_false_left, ne_eq, Decidable.not_not, bne_iff_ne, beq_iff_eq, beq_eq_false_iff_ne, Bool.not_true, Bool.not_false] at hc0
    have hck0 := hck
    rw [hc0] at hck0
    obtain ⟨hva, hg, hnh⟩ := hck0.ok
    have hrl := hva.len
    have hl := hg.len
    refine wp_skip ?_
    refine n_then ?_
    refine wp_seq ?_
    refine wp_seq ?_
    refine rg ?_
    refine st (mvI rfl) ?_
    refine st (y_lss rfl rfl) ?_
    refine st (mvB rfl) ?_
    refine gspL 20 rfl (fun hg7 => ?_) (fun hg7 => ?_)
    ·
      have hg7n := hg7; try simp only [decide_eq_true_eq, decide_eq_false_iff_not, Bool.not_eq_true', Bool.not_eq_false', Bool.and_eq_true, Bool.or_eq_true, Bool.or_eq_false_iff, Bool.cond_true_right, Bool.cond_false_right, Bool.cond_true_left, Bool.cond_false_left, ne_eq, Decidable.not_not, bne_iff_ne, beq_iff_eq, beq_eq_false_iff_ne, Bool.not_true, Bool.not_false] at hg7n
      refine sts rfl rfl hg7 ?_
      refine sts rfl rfl hg7 ?_
      refine st (y_pickT rfl hg7 (v := .bool _) rfl) ?_
      refine rg_end ?_
      refine n_then ?_
      refine cnd rfl (fun hc1 => ?_) (fun hc1 => absurd hc1 (by decide))
      have hBr : B < 1 ∨ 1048576 < B := by omega
      refine wp_seq ?_
      refine rg ?_
      refine st (asS rfl) ?_
      refine st (asI rfl) ?_
      refine st (asI rfl) ?_
      refine rg_end ?_
      refine n_then ?_
      refine wp_ret ?_
      refine r_then (ret3 (v := (.slice _ _ _)) (v' := (.int .i64 _)) (v'' := (.int .i64 _)) Try.results29 rfl rfl rfl ?_)
      exact ⟨none, 0, [], 0, 4, _, rfl, hck, (by unfold srF; rw [if_neg (fun q => q hc0), if_pos hBr]), Ow.nil (fun _ => rfl), hE⟩
    ·
      have hg7n := hg7; try simp only [decide_eq_true_eq, decide_eq_false_iff_not, Bool.not_eq_true', Bool.not_eq_false', Bool.and_eq_true, Bool.or_eq_true, Bool.or_eq_false_iff, Bool.cond_true_right, Bool.cond_false_right, Bool.cond_true_left, Bool.cond_false_left, ne_eq, Decidable.not_not, bne_iff_ne, beq_iff_eq, beq_eq_false_iff_ne, Bool.not_true, Bool.not_false] at hg7n
      refine stg rfl rfl hg7 (mvI rfl) ?_
      refine stg rfl rfl hg7 (y_gtr rfl rfl) ?_
      refine st (y_pickF rfl hg7 (v := .bool _) rfl) ?_
      refine rg_end ?_
      refine n_then ?_
      refine cnd rfl (fun hc1 => ?_) (fun hc1 => ?_)
      ·
        try simp only [decide_eq_true_eq, decide_eq_false_iff_not, Bool.not_eq_true', Bool.not_eq_false', Bool.and_eq_true, Bool.or_eq_true, Bool.or_eq_false_iff, Bool.cond_true_right, Bool.cond_false_right, Bool.cond_true_left, Bool.cond_false_left, ne_eq, Decidable.not_not, bne_iff_ne, beq_iff_eq, beq_eq_false_iff_ne, Bool.not_true, Bool.not_false] at hc1
        have hBr : B < 1 ∨ 1048576 < B := by omega
        refine wp_seq ?_
        refine rg ?_
        refine st (asS rfl) ?_
        refine st (asI rfl) ?_
        refine st (asI rfl) ?_
        refine rg_end ?_
        refine n_then ?_
        refine wp_ret ?_
        refine r_then (ret3 (v := (.slice _ _ _)) (v' := (.int .i64 _)) (v'' := (.int .i64 _)) Try.results29 rfl rfl rfl ?_)
        exact ⟨none, 0, [], 0, 4, _, rfl, hck, (by unfold srF; rw [if_neg (fun q => q hc0), if_pos hBr]), Ow.nil (fun _ => rfl), hE⟩
      ·
        try simp only [decide_eq_true_eq, decide_eq_false_iff_not, Bool.not_eq_true', Bool.not_eq_false', Bool.and_eq_true, Bool.or_eq_true, Bool.or_eq_false_iff, Bool.cond_true_right, Bool.cond_false_right, Bool.cond_true_left, Bool.cond_false_left, ne_eq, Decidable.not_not, bne_iff_ne, beq_iff_eq, beq_eq_false_iff_ne, Bool.not_true, Bool.not_false] at hc1
        have hBr : ¬ (B < 1 ∨ 1048576 < B) := by omega
        refine wp_skip ?_
        refine n_then ?_
        refine wp_seq ?_
        refine rg ?_
        refine st (mvS rfl) ?_
        refine st (mvI rfl) ?_
        refine st (y_build (bld68_0_1 _ _ _ _ _) rfl) ?_
        refine sd (d_boxA rfl ?_)
        intro bs w8 hbbs hs10 ho9 hbs
        have hz11 := ho9.size
        replace hP := hP.ext ho9
        replace hA := hA.ext ho9
        replace hE := hE.step ho9 (.inl (Nat.le_refl _))
        refine st (asP rfl) ?_
        refine rg_end ?_
        refine n_then ?_
        refine wp_seq ?_
        refine wp_seq ?_
        refine rg ?_
        refine st (mvP rfl) ?_
        refine st (mvS rfl) ?_
        have hrm := rem_le hva hg rows.length (Nat.le_refl _)
        have hM1 : RMe bs w8 rows ap cp B (([] : List (List Int)).length : Int) [] [⟨aa, ca, at_⟩] [] := ⟨none, 0, none, 0, [], hbs, Ow.nil (fun _ => rfl), Ow.nil (fun _ => rfl), rfl, ⟨fun r hr => by
          rw [List.mem_singleton.1 hr]
          exact RowS.low hA (by omega) (by omega)⟩, .inl (Nat.zero_le _), by simp; omega, by simp, by omega⟩
        clear hbs
        refine sc cl44 (ref35_examine_ok rows ap cp _ _ bs B hva (by omega) (by omega) (remT rows at_ rows.length) [] [⟨aa, ca, at_⟩] at_ [] aa ca at_.length _ hP hM1 (List.mem_singleton.2 rfl) rfl hg (Nat.le_refl _) (by simp; omega)) rfl ?_
        rintro v16 w12 ⟨rfl, hM2, ho13⟩
        obtain ⟨sa, sq, pa, pc, sn, hbs, hsa, hpa, hsn, hrw, dsp, hSl, hSn, d3⟩ := hM2.ex
        have hsr := hsa.rng
        have hpr := hpa.rng
        have hz17 := ho13.size
        replace hP := hP.out ho13 (by first | omega | (simp only [blk_some, hi1_some] at *; omega))
        replace hA := hA.out ho13 (by first | omega | (simp only [blk_some, hi1_some] at *; omega))
        replace hE := hE.step ho13 (by first | omega | (simp only [blk_some, hi1_some] at *; omega))
        refine st (asB rfl) ?_
        refine rg_end ?_
        refine n_then ?_
        refine wp_block ?_
        refine wp_seq ?_
        refine rg ?_
        refine st (mvB rfl) ?_
        refine st (asB rfl) ?_
        refine rg_end ?_
        refine n_then ?_
        refine cnd rfl (fun hc2 => ?_) (fun hc2 => ?_)
        ·
          try simp only [decide_eq_true_eq, decide_eq_false_iff_not, Bool.not_eq_true', Bool.not_eq_false', Bool.and_eq_true, Bool.or_eq_true, Bool.or_eq_false_iff, Bool.cond_true_right, Bool.cond_false_right, Bool.cond_true_left, Bool.cond_false_left, ne_eq, Decidable.not_not, bne_iff_ne, beq_iff_eq, beq_eq_false_iff_ne, Bool.not_true, Bool.not_false] at hc2
          have hus : usR B (exm rows B (remT rows at_ rows.length) [] at_) = ((exm rows B (remT rows at_ rows.length) [] at_).seen.length : Int) := usR_eq (by rw [hc2]; decide)
          have hpl : plR (exm rows B (remT rows at_ rows.length) [] at_) [] = (exm rows B (remT rows at_ rows.length) [] at_).plan := by unfold plR; rw [if_pos hc2]; rfl
          rw [hus] at hbs
          rw [hpl] at hbs hpa
          refine wp_seq ?_
          refine rgD 9 (fun w_ => Ext w12 w_) (fun i => false) mixed (by kernel_rfl) ?_
          intro w18 ho19 hs20
          refine ⟨ho19, ?_⟩
          have hx21 := ho19
          refine tn rfl (fun _ hG => mvP rfl) ?_
          refine tn rfl (fun _ hG => y_nil rfl) ?_
          refine tn rfl (fun _ hG => y_fld fld68_4 rfl) ?_
          refine tn rfl (fun _ hG => y_lb (hbs.ext hG) na22 rfl rfl) ?_
          refine tn rfl (fun _ hG => mvP rfl) ?_
          refine tn rfl (fun _ hG => y_nil rfl) ?_
          refine tn rfl (fun _ hG => y_fld fld68_2 rfl) ?_
          refine tn rfl (fun _ hG => y_lb (hbs.ext hG) na3 rfl rfl) ?_
          refine tn rfl (fun _ hG => asS rfl) ?_
          refine t_end ?_
          have hz22 := hx21.size
          replace hP := hP.ext hx21
          replace hA := hA.ext hx21
          replace hE := hE.step hx21 (.inl (Nat.le_refl _))
          replace hbs := hbs.ext hx21
          replace hsa := hsa.ext hx21
          replace hpa := hpa.ext hx21
          replace hrw := hrw.ext hx21
          refine st (asI rfl) ?_
          refine st (asI rfl) ?_
          refine rg_end ?_
          refine n_then ?_
          refine wp_ret ?_
          refine r_blk (r_then (ret3 (v := (.slice _ _ _)) (v' := (.int .i64 _)) (v'' := (.int .i64 _)) Try.results29 rfl rfl rfl ?_))
          exact ⟨pa, pc, (exm rows B (remT rows at_ rows.length) [] at_).plan, _, 0, _, rfl, hck, by unfold srF srR; rw [if_neg (fun q => q hc0), if_neg hBr, if_pos hc2], (hpa.lower (by omega)).wide (by omega), hE⟩
        ·
          try simp only [decide_eq_true_eq, decide_eq_false_iff_not, Bool.not_eq_true', Bool.not_eq_false', Bool.and_eq_true, Bool.or_eq_true, Bool.or_eq_false_iff, Bool.cond_true_right, Bool.cond_false_right, Bool.cond_true_left, Bool.cond_false_left, ne_eq, Decidable.not_not, bne_iff_ne, beq_iff_eq, beq_eq_false_iff_ne, Bool.not_true, Bool.not_false] at hc2
          refine wp_seq ?_
          refine rg ?_
          refine st (mvP rfl) ?_
          refine st (y_nil rfl) ?_
          refine st (y_fld fld68_2 rfl) ?_
          refine st (y_lb hbs na3 rfl rfl) ?_
          refine st (mvI rfl) ?_
          refine st (y_gtr rfl rfl) ?_
          refine st (asB rfl) ?_
          refine rg_end ?_
          refine n_then ?_
          refine cnd rfl (fun hc3 => ?_) (fun hc3 => ?_)
          ·
            try simp only [decide_eq_true_eq, decide_eq_false_iff_not, Bool.not_eq_true', Bool.not_eq_false', Bool.and_eq_true, Bool.or_eq_true, Bool.or_eq_false_iff, Bool.cond_true_right, Bool.cond_false_right, Bool.cond_true_left, Bool.cond_false_left, ne_eq, Decidable.not_not, bne_iff_ne, beq_iff_eq, beq_eq_false_iff_ne, Bool.not_true, Bool.not_false] at hc3
            have hc15 := usR_lt hSl hc3
            refine wp_seq ?_
            refine rg ?_
            refine st (asS rfl) ?_
            refine st (asI rfl) ?_
            refine st (asI rfl) ?_
            refine rg_end ?_
            refine n_then ?_
            refine wp_ret ?_
            refine r_blk (r_then (ret3 (v := (.slice _ _ _)) (v' := (.int .i64 _)) (v'' := (.int .i64 _)) Try.results29 rfl rfl rfl ?_))
            exact ⟨none, 0, [], 0, _, _, rfl, hck, by unfold srF srR; rw [if_neg (fun q => q hc0), if_neg hBr, if_neg hc2, if_neg (by rw [hc15]; decide), hc15], Ow.nil (fun _ => rfl), hE⟩
          ·
            try simp only [decide_eq_true_eq, decide_eq_false_iff_not, Bool.not_eq_true', Bool.not_eq_false', Bool.and_eq_true, Bool.or_eq_true, Bool.or_eq_false_iff, Bool.cond_true_right, Bool.cond_false_right, Bool.cond_true_left, Bool.cond_false_left, ne_eq, Decidable.not_not, bne_iff_ne, beq_iff_eq, beq_eq_false_iff_ne, Bool.not_true, Bool.not_false] at hc3
            have hn15 := usR_ge hc3
            have hus := usR_eq (B := B) hn15
            have hc19 : (exm rows B (remT rows at_ rows.length) [] at_).c = 19 := by
              rcases exm_c (rows := rows) (B := B) (remT rows at_ rows.length) [] at_ with q | q | q
              · exact absurd q hc2
              · exact absurd q hn15
              · exact q
            rw [hus] at hbs
            refine wp_skip ?_
            refine n_blk ?_
            refine n_then ?_
            refine wp_seq ?_
            refine rgD 5 (fun w_ => Ext w12 w_) (fun i => false) mixed (by kernel_rfl) ?_
            intro w23 ho24 hs25
            refine ⟨ho24, ?_⟩
            have hx26 := ho24
            refine tn rfl (fun _ hG => mvP rfl) ?_
            refine tn rfl (fun _ hG => y_nil rfl) ?_
            refine tn rfl (fun _ hG => y_fld fld68_2 rfl) ?_
            refine tn rfl (fun _ hG => y_lb (hbs.ext hG) na3 rfl rfl) ?_
            refine tn rfl (fun _ hG => asS rfl) ?_
            refine t_end ?_
            have hz27 := hx26.size
            replace hP := hP.ext hx26
            replace hA := hA.ext hx26
            replace hE := hE.step hx26 (.inl (Nat.le_refl _))
            replace hbs := hbs.ext hx26
            replace hsa := hsa.ext hx26
            replace hpa := hpa.ext hx26
            replace hrw := hrw.ext hx26
            refine st (asI rfl) ?_
            refine st (asI rfl) ?_
            refine rg_end ?_
            refine n_then ?_
            refine wp_ret ?_
            refine ret3 (v := (.slice _ _ _)) (v' := (.int .i64 _)) (v'' := (.int .i64 _)) Try.results29 rfl rfl rfl ?_
            exact ⟨none, 0, [], _, 19, _, rfl, hck, by unfold srF srR; rw [if_neg (fun q => q hc0), if_neg hBr, if_neg hc2, if_pos hc19], Ow.nil (fun _ => rfl), hE⟩

theorem dead_SearchM_ok (rows : List Pw) (ap : Option Addr) (cp l_ h_ : Nat) (at_ : List Int) (aa : Option Addr) (ca la ha_ : Nat) (m : Nat) (B : Int) (w : World) (hP : PIn l_ h_ w ap rows) (hpn : (rows.length : Int) ≤ 9223372036854775807) (hA : Ints la ha_ w aa at_) (hln : ∀ r ∈ rows, (r.st.length : Int) ≤ 9223372036854775807 ∧ ∀ s ∈ r.st, (s.pts.length : Int) ≤ 9223372036854775807) (han : (at_.length : Int) ≤ 9223372036854775807) (hm : m = at_.length) : Cal Try.prog 17 [.slice ap rows.length cp, .slice aa m ca, .int .i64 B] w (fun v w' => ∃ ad c l n e e0, v = .tuple #[.slice ad l.length c, .int .i64 n, .int .i64 e] ∧ CkR rows at_ e0 ∧ (l, n, e) = srF rows at_ B e0 ∧ Ow 3 encI 1 w.heap.size w'.heap.size w' ad c l ∧ Ext w w') := by
  subst hm
  exact dead_Search_ok rows ap cp l_ h_ at_ aa ca la ha_ B w hP hpn hA hln han

theorem ref35_SearchM_ok (rows : List Pw) (ap : Option Addr) (cp l_ h_ : Nat) (at_ : List Int) (aa : Option Addr) (ca la ha_ : Nat) (m : Nat) (B : Int) (w : World) (hP : PIn l_ h_ w ap rows) (hpn : (rows.length : Int) ≤ 9223372036854775807) (hA : Ints la ha_ w aa at_) (hln : ∀ r ∈ rows, (r.st.length : Int) ≤ 9223372036854775807 ∧ ∀ s ∈ r.st, (s.pts.length : Int) ≤ 9223372036854775807) (han : (at_.length : Int) ≤ 9223372036854775807) (hm : m = at_.length) : Cal Try.prog 29 [.slice ap rows.length cp, .slice aa m ca, .int .i64 B] w (fun v w' => ∃ ad c l n e e0, v = .tuple #[.slice ad l.length c, .int .i64 n, .int .i64 e] ∧ CkR rows at_ e0 ∧ (l, n, e) = srF rows at_ B e0 ∧ Ow 3 encI 1 w.heap.size w'.heap.size w' ad c l ∧ Ext w w') := by
  subst hm
  exact ref35_Search_ok rows ap cp l_ h_ at_ aa ca la ha_ B w hP hpn hA hln han

set_option maxRecDepth 100000 in
theorem clone_I_ok (ad : Option Addr) (c : Nat) (l : List Int) (lo hi : Nat) (w : World) (hL : Ints lo hi w ad l) (hn : (l.length : Int) ≤ 1000000) : Cal Try.prog 41 [.slice ad l.length c] w (fun v w' => ∃ ad' c', v = .slice ad' l.length c' ∧ Ow 3 encI 1 w.heap.size w'.heap.size w' ad' c' l ∧ Ext w w') := by
  replace hL := Ints.full hL
  have hE : Out 0 0 w w := Out.refl _ _ w
  refine enter Try.func41 rfl Try.ntmps41 rfl ?_
  refine wp_seq ?_
  refine rg ?_
  refine st (asS rfl) ?_
  refine rg_end ?_
  refine n_then ?_
  refine wp_seq ?_
  refine wp_seq ?_
  refine rg ?_
  refine st (mvS rfl) ?_
  refine st (y_nilS Try.underlying22 rfl rfl) ?_
  refine rg_end ?_
  refine n_then ?_
  refine cnd rfl (fun hc0 => ?_) (fun hc0 => ?_)
  ·
    try simp only [decide_eq_true_eq, decide_eq_false_iff_not, Bool.not_eq_true', Bool.not_eq_false', Bool.and_eq_true, Bool.or_eq_true, Bool.or_eq_false_iff, Bool.cond_true_right, Bool.cond_false_right, Bool.cond_true_left, Bool.cond_false_left, ne_eq, Decidable.not_not, bne_iff_ne, beq_iff_eq, beq_eq_false_iff_ne, Bool.not_true, Bool.not_false] at hc0
    have hnil : l = [] := by
      cases ad with
      | none => exact Classical.byContradiction fun h => by obtain ⟨⟨b, o, e⟩, _⟩ := hL.plain h; cases e
      | some a => simp at hc0
    refine wp_seq ?_
    refine rg ?_
    refine st (asS rfl) ?_
    refine rg_end ?_
    refine n_then ?_
    refine wp_ret ?_
    refine r_then (ret1 (v := (.slice _ _ _)) Try.results41 rfl ?_)
    subst hnil
    exact ⟨none, 0, rfl, Ow.nil (fun _ => rfl), hE⟩
  ·
    try simp only [decide_eq_true_eq, decide_eq_false_iff_not, Bool.not_eq_true', Bool.not_eq_false', Bool.and_eq_true, Bool.or_eq_true, Bool.or_eq_false_iff, Bool.cond_true_right, Bool.cond_false_right, Bool.cond_true_left, Bool.cond_false_left, ne_eq, Decidable.not_not, bne_iff_ne, beq_iff_eq, beq_eq_false_iff_ne, Bool.not_true, Bool.not_false] at hc0
    have hsome : ad.isSome = true := by cases ad with | none => simp at hc0 | some a => rfl
    refine wp_skip ?_
    refine n_then ?_
    refine wp_seq ?_
    refine rg ?_
    refine sd (d_bs0 (sz := 1) (lo := w.heap.size) (enc := encI) (fun _ => rfl) (bsl22_0 _) rfl (by omega) ?_)
    intro b0 w1 hbb0 hs3 ho2 hm
    have hz5 := ho2.size
    replace hL := hL.ext ho2
    replace hE := hE.step ho2 (.inl (Nat.le_refl _))
    refine st (mvS rfl) ?_
    have hrhm := hm.rng
    refine sd (d_appS (xs := l) hm sl22 infoz3 (by decide) rfl rfl rfl (rfl) (hsome) (hL) (fun _ => rfl) (by simp; unfold maxLen; omega) (by simp; omega) (by omega) (by omega) ?_)
    intro ad2 cc2 w6 ho7 hm'
    have hs8 := ho7.size
    clear hm; have hm := hm'; clear hm'
    have hz11 := ho7.size
    replace hL := hL.out ho7 (by first | omega | (simp only [blk_some, hi1_some] at *; omega))
    replace hE := hE.step ho7 (by first | omega | (simp only [blk_some, hi1_some] at *; omega))
    refine st (asS rfl) ?_
    refine rg_end ?_
    refine n_then ?_
    refine wp_ret ?_
    refine ret1 (v := (.slice _ _ _)) Try.results41 rfl ?_
    exact ⟨ad2, cc2, by simp, by simpa using hm, hE⟩

set_option maxHeartbeats 1000000 in
set_option maxRecDepth 100000 in
theorem ref35_Admit_ok (rows : List Pw) (ap : Option Addr) (cp l_ h_ : Nat) (at_ : List Int) (aa : Option Addr) (ca la ha_ : Nat) (tr B : Int) (w : World) (hP : PIn l_ h_ w ap rows) (hpn : (rows.length : Int) ≤ 9223372036854775807) (hA : Ints la ha_ w aa at_) (hln : ∀ r ∈ rows, (r.st.length : Int) ≤ 9223372036854775807 ∧ ∀ s ∈ r.st, (s.pts.length : Int) ≤ 9223372036854775807) (han : (at_.length : Int) ≤ 9223372036854775807) : Cal Try.prog 30 [.slice ap rows.length cp, .slice aa at_.length ca, .int .i64 tr, .int .i64 B] w (fun v w' => ∃ n e e0, v = .tuple #[.int .i64 n, .int .i64 e] ∧ CkR rows at_ e0 ∧ (n, e) = adF rows at_ tr B e0 ∧ Ext w w') := by
  replace hP := hP.full
  replace hA := Ints.full hA
  have hE : Out 0 0 w w := Out.refl _ _ w
  refine enter Try.func30 rfl Try.ntmps30 rfl ?_
  refine wp_seq ?_
  refine rg ?_
  refine st (asI rfl) ?_
  refine st (asI rfl) ?_
  refine rg_end ?_
  refine n_then ?_
  refine wp_seq ?_
  refine wp_seq ?_
  refine rg ?_
  refine st (mvS rfl) ?_
  refine st (mvS rfl) ?_
  refine sc cl15 (ref35_CheckState_ok rows _ _ _ _ at_ _ _ _ _ _ hP hpn hA hln han) rfl ?_
  rintro v5 w1 ⟨e, rfl, hck, ho2⟩
  have hz6 := ho2.size
  replace hP := hP.ext ho2
  replace hA := hA.ext ho2
  replace hE := hE.step ho2 (.inl (Nat.le_refl _))
  refine st (asI rfl) ?_
  refine rg_end ?_
  refine n_then ?_
  refine wp_seq ?_
  refine rg ?_
  refine st (mvI rfl) ?_
  refine st (y_neq rfl rfl) ?_
  refine rg_end ?_
  refine n_then ?_
  refine cnd rfl (fun hc0 => ?_) (fun hc0 => ?_)
  ·
    try simp only [decide_eq_true_eq, decide_eq_false_iff_not, Bool.not_eq_true', Bool.not_eq_false', Bool.and_eq_true, Bool.or_eq_true, Bool.or_eq_false_iff, Bool.cond_true_right, Bool.cond_false_right, Bool.cond_true_left, Bool.cond_false_left, ne_eq, Decidable.not_not, bne_iff_ne, beq_iff_eq, beq_eq_false_iff_ne, Bool.not_true, Bool.not_false] at hc0
    refine wp_seq ?_
    refine rg ?_
    refine st (mvI rfl) ?_
    refine st (asI rfl) ?_
    refine st (asI rfl) ?_
    refine rg_end ?_
    refine n_then ?_
    refine wp_ret ?_
    refine r_then (ret2 (v := (.int .i64 _)) (v' := (.int .i64 _)) Try.results30 rfl rfl ?_)
    exact ⟨0, e, _, rfl, hck, by unfold adF; rw [if_pos hc0], hE⟩
  ·
    try simp only [decide_eq_true_eq, decide_eq_false_iff_not, Bool.not_eq_true', Bool.not_eq_false', Bool.and_eq_true, Bool.or_eq_true, Bool.or_eq_false_iff, Bool.cond_true_right, Bool.cond_false_right, Bool.cond_true_left, Bool.cond_false_left, ne_eq, Decidable.not_not, bne_iff_ne, beq_iff_eq, beq_eq_false_iff_ne, Bool.not_true, Bool.not_false] at hc0
    have hck0 := hck
    rw [hc0] at hck0
    obtain ⟨hva, hg, hnh⟩ := hck0.ok
    have hrl := hva.len
    have hl := hg.len
    refine wp_skip ?_
    refine n_then ?_
    refine wp_seq ?_
    refine wp_seq ?_
    refine rg ?_
    refine st (mvI rfl) ?_
    refine st (y_lss rfl rfl) ?_
    refine st (mvB rfl) ?_
    refine gspL 23 rfl (fun hg7 => ?_) (fun hg7 => ?_)
    ·
      have hg7n := hg7; try simp only [decide_eq_true_eq, decide_eq_false_iff_not, Bool.not_eq_true', Bool.not_eq_false', Bool.and_eq_true, Bool.or_eq_true, Bool.or_eq_false_iff, Bool.cond_true_right, Bool.cond_false_right, Bool.cond_true_left, Bool.cond_false_left, ne_eq, Decidable.not_not, bne_iff_ne, beq_iff_eq, beq_eq_false_iff_ne, Bool.not_true, Bool.not_false] at hg7n
      refine sts rfl rfl hg7 ?_
      refine sts rfl rfl hg7 ?_
      refine sts rfl rfl hg7 ?_
      refine sts rfl rfl hg7 ?_
      refine st (y_pickT rfl hg7 (v := .bool _) rfl) ?_
      refine st (mvB rfl) ?_
      refine sts rfl rfl rfl ?_
      refine sts rfl rfl rfl ?_
      refine st (y_pickT rfl rfl (v := .bool _) rfl) ?_
      refine st (mvB rfl) ?_
      refine sts rfl rfl rfl ?_
      refine sts rfl rfl rfl ?_
      refine st (y_pickT rfl rfl (v := .bool _) rfl) ?_
      refine rg_end ?_
      refine n_then ?_
      refine cnd rfl (fun hc1 => ?_) (fun hc1 => absurd hc1 (by decide))
      have hrg : tr < 0 ∨ (rows.length : Int) ≤ tr ∨ B < 1 ∨ 1048576 < B := by omega
      refine wp_seq ?_
      refine rg ?_
      refine st (asI rfl) ?_
      refine st (asI rfl) ?_
      refine rg_end ?_
      refine n_then ?_
      refine wp_ret ?_
      refine r_then (ret2 (v := (.int .i64 _)) (v' := (.int .i64 _)) Try.results30 rfl rfl ?_)
      exact ⟨0, 4, _, rfl, hck, by unfold adF; rw [if_neg (fun q => q hc0), if_pos hrg], hE⟩
    ·
      have hg7n := hg7; try simp only [decide_eq_true_eq, decide_eq_false_iff_not, Bool.not_eq_true', Bool.not_eq_false', Bool.and_eq_true, Bool.or_eq_true, Bool.or_eq_false_iff, Bool.cond_true_right, Bool.cond_false_right, Bool.cond_true_left, Bool.cond_false_left, ne_eq, Decidable.not_not, bne_iff_ne, beq_iff_eq, beq_eq_false_iff_ne, Bool.not_true, Bool.not_false] at hg7n
      refine stg rfl rfl hg7 (mvI rfl) ?_
      refine stg rfl rfl hg7 (mvS rfl) ?_
      refine stg rfl rfl hg7 (y_len Try.underlying23 rfl) ?_
      refine stg rfl rfl hg7 (y_geq rfl rfl) ?_
      refine st (y_pickF rfl hg7 (v := .bool _) rfl) ?_
      refine st (mvB rfl) ?_
      refine gspL 29 rfl (fun hg8 => ?_) (fun hg8 => ?_)
      ·
        have hg8n := hg8; try simp only [decide_eq_true_eq, decide_eq_false_iff_not, Bool.not_eq_true', Bool.not_eq_false', Bool.and_eq_true, Bool.or_eq_true, Bool.or_eq_false_iff, Bool.cond_true_right, Bool.cond_false_right, Bool.cond_true_left, Bool.cond_false_left, ne_eq, Decidable.not_not, bne_iff_ne, beq_iff_eq, beq_eq_false_iff_ne, Bool.not_true, Bool.not_false] at hg8n
        refine sts rfl rfl hg8 ?_
        refine sts rfl rfl hg8 ?_
        refine st (y_pickT rfl hg8 (v := .bool _) rfl) ?_
        refine st (mvB rfl) ?_
        refine sts rfl rfl rfl ?_
        refine sts rfl rfl rfl ?_
        refine st (y_pickT rfl rfl (v := .bool _) rfl) ?_
        refine rg_end ?_
        refine n_then ?_
        refine cnd rfl (fun hc1 => ?_) (fun hc1 => absurd hc1 (by decide))
        have hrg : tr < 0 ∨ (rows.length : Int) ≤ tr ∨ B < 1 ∨ 1048576 < B := by omega
        refine wp_seq ?_
        refine rg ?_
        refine st (asI rfl) ?_
        refine st (asI rfl) ?_
        refine rg_end ?_
        refine n_then ?_
        refine wp_ret ?_
        refine r_then (ret2 (v := (.int .i64 _)) (v' := (.int .i64 _)) Try.results30 rfl rfl ?_)
        exact ⟨0, 4, _, rfl, hck, by unfold adF; rw [if_neg (fun q => q hc0), if_pos hrg], hE⟩
      ·
        have hg8n := hg8; try simp only [decide_eq_true_eq, decide_eq_false_iff_not, Bool.not_eq_true', Bool.not_eq_false', Bool.and_eq_true, Bool.or_eq_true, Bool.or_eq_false_iff, Bool.cond_true_right, Bool.cond_false_right, Bool.cond_true_left, Bool.cond_false_left, ne_eq, Decidable.not_not, bne_iff_ne, beq_iff_eq, beq_eq_false_iff_ne, Bool.not_true, Bool.not_false] at hg8n
        refine stg rfl rfl hg8 (mvI rfl) ?_
        refine stg rfl rfl hg8 (y_lss rfl rfl) ?_
        refine st (y_pickF rfl hg8 (v := .bool _) rfl) ?_
        refine st (mvB rfl) ?_
        refine gspL 33 rfl (fun hg9 => ?_) (fun hg9 => ?_)
        ·
          have hg9n := hg9; try simp only [decide_eq_true_eq, decide_eq_false_iff_not, Bool.not_eq_true', Bool.not_eq_false', Bool.and_eq_true, Bool.or_eq_true, Bool.or_eq_false_iff, Bool.cond_true_right, Bool.cond_false_right, Bool.cond_true_left, Bool.cond_false_left, ne_eq, Decidable.not_not, bne_iff_ne, beq_iff_eq, beq_eq_false_iff_ne, Bool.not_true, Bool.not_false] at hg9n
          refine sts rfl rfl hg9 ?_
          refine sts rfl rfl hg9 ?_
          refine st (y_pickT rfl hg9 (v := .bool _) rfl) ?_
          refine rg_end ?_
          refine n_then ?_
          refine cnd rfl (fun hc1 => ?_) (fun hc1 => absurd hc1 (by decide))
          have hrg : tr < 0 ∨ (rows.length : Int) ≤ tr ∨ B < 1 ∨ 1048576 < B := by omega
          refine wp_seq ?_
          refine rg ?_
          refine st (asI rfl) ?_
          refine st (asI rfl) ?_
          refine rg_end ?_
          refine n_then ?_
          refine wp_ret ?_
          refine r_then (ret2 (v := (.int .i64 _)) (v' := (.int .i64 _)) Try.results30 rfl rfl ?_)
          exact ⟨0, 4, _, rfl, hck, by unfold adF; rw [if_neg (fun q => q hc0), if_pos hrg], hE⟩
        ·
          have hg9n := hg9; try simp only [decide_eq_true_eq, decide_eq_false_iff_not, Bool.not_eq_true', Bool.not_eq_false', Bool.and_eq_true, Bool.or_eq_true, Bool.or_eq_false_iff, Bool.cond_true_right, Bool.cond_false_right, Bool.cond_true_left, Bool.cond_false_left, ne_eq, Decidable.not_not, bne_iff_ne, beq_iff_eq, beq_eq_false_iff_ne, Bool.not_true, Bool.not_false] at hg9n
          refine stg rfl rfl hg9 (mvI rfl) ?_
          refine stg rfl rfl hg9 (y_gtr rfl rfl) ?_
          refine st (y_pickF rfl hg9 (v := .bool _) rfl) ?_
          refine rg_end ?_
          refine n_then ?_
          refine cnd rfl (fun hc1 => ?_) (fun hc1 => ?_)
          ·
            try simp only [decide_eq_true_eq, decide_eq_false_iff_not, Bool.not_eq_true', Bool.not_eq_false', Bool.and_eq_true, Bool.or_eq_true, Bool.or_eq_false_iff, Bool.cond_true_right, Bool.cond_false_right, Bool.cond_true_left, Bool.cond_false_left, ne_eq, Decidable.not_not, bne_iff_ne, beq_iff_eq, beq_eq_false_iff_ne, Bool.not_true, Bool.not_false] at hc1
            have hrg : tr < 0 ∨ (rows.length : Int) ≤ tr ∨ B < 1 ∨ 1048576 < B := by omega
            refine wp_seq ?_
            refine rg ?_
            refine st (asI rfl) ?_
            refine st (asI rfl) ?_
            refine rg_end ?_
            refine n_then ?_
            refine wp_ret ?_
            refine r_then (ret2 (v := (.int .i64 _)) (v' := (.int .i64 _)) Try.results30 rfl rfl ?_)
            exact ⟨0, 4, _, rfl, hck, by unfold adF; rw [if_neg (fun q => q hc0), if_pos hrg], hE⟩
          ·
            try simp only [decide_eq_true_eq, decide_eq_false_iff_not, Bool.not_eq_true', Bool.not_eq_false', Bool.and_eq_true, Bool.or_eq_true, Bool.or_eq_false_iff, Bool.cond_true_right, Bool.cond_false_right, Bool.cond_true_left, Bool.cond_false_left, ne_eq, Decidable.not_not, bne_iff_ne, beq_iff_eq, beq_eq_false_iff_ne, Bool.not_true, Bool.not_false] at hc1
            have hrg : ¬ (tr < 0 ∨ (rows.length : Int) ≤ tr ∨ B < 1 ∨ 1048576 < B) := by omega
            obtain ⟨t, rfl⟩ := Int.eq_ofNat_of_zero_le (show 0 ≤ tr by omega)
            have ht : t < rows.length := by omega
            have hgt := hg.rng t ht
            have hl2 := (va_row hva (k := t) (by omega)).l2
            refine wp_skip ?_
            refine n_then ?_
            refine wp_seq ?_
            refine wp_seq ?_
            refine rg ?_
            refine st (mvS rfl) ?_
            refine st (mvS rfl) ?_
            refine st (mvI rfl) ?_
            refine sc cl39 (ref35_movable_ok rows _ _ _ _ at_ _ _ _ _ t _ hP hpn hA hg ht hva) rfl ?_
            rintro v14 w10 ⟨rfl, ho11⟩
            have hz15 := ho11.size
            replace hP := hP.ext ho11
            replace hA := hA.ext ho11
            replace hE := hE.step ho11 (.inl (Nat.le_refl _))
            refine st (y_not rfl) ?_
            refine rg_end ?_
            refine n_then ?_
            refine cnd rfl (fun hc2 => ?_) (fun hc2 => ?_)
            ·
              try simp only [decide_eq_true_eq, decide_eq_false_iff_not, Bool.not_eq_true', Bool.not_eq_false', Bool.and_eq_true, Bool.or_eq_true, Bool.or_eq_false_iff, Bool.cond_true_right, Bool.cond_false_right, Bool.cond_true_left, Bool.cond_false_left, ne_eq, Decidable.not_not, bne_iff_ne, beq_iff_eq, beq_eq_false_iff_ne, Bool.not_true, Bool.not_false] at hc2
              refine wp_seq ?_
              refine rg ?_
              refine st (asI rfl) ?_
              refine st (asI rfl) ?_
              refine rg_end ?_
              refine n_then ?_
              refine wp_ret ?_
              refine r_then (ret2 (v := (.int .i64 _)) (v' := (.int .i64 _)) Try.results30 rfl rfl ?_)
              exact ⟨0, 16, _, rfl, hck, by unfold adF; rw [if_neg (fun q => q hc0), if_neg hrg, if_neg (by rw [hc2]; decide)], hE⟩
            ·
              try simp only [decide_eq_true_eq, decide_eq_false_iff_not, Bool.not_eq_true', Bool.not_eq_false', Bool.and_eq_true, Bool.or_eq_true, Bool.or_eq_false_iff, Bool.cond_true_right, Bool.cond_false_right, Bool.cond_true_left, Bool.cond_false_left, ne_eq, Decidable.not_not, bne_iff_ne, beq_iff_eq, beq_eq_false_iff_ne, Bool.not_true, Bool.not_false] at hc2
              have hmv_ : movB rows at_ (t : Int) = true := hc2
              have hlt := movB_lt hmv_
              refine wp_skip ?_
              refine n_then ?_
              refine wp_seq ?_
              refine rg ?_
              refine st (mvS rfl) ?_
              have hcl := Ow.nil (E := 3) (sz := 1) (enc := encI) (lo := w.heap.size) (hi := 0) (w := w10) (fun _ => rfl)
              have hrhcl := hcl.rng
              refine sd (d_appN (xs := at_) hcl sl22 infoz3 (by decide) rfl rfl rfl (rfl) (hA) (fun _ => rfl) (by simp; unfold maxLen; omega) (by simp; omega) (by omega) (Nat.zero_le _) ?_)
              intro acl ccl w16 ho17 hcl'
              have hs18 := ho17.size
              clear hcl; have hcl := hcl'; clear hcl'
              have hz21 := ho17.size
              replace hP := hP.out ho17 (by first | omega | (simp only [blk_some, hi1_some] at *; omega))
              replace hA := hA.out ho17 (by first | omega | (simp only [blk_some, hi1_some] at *; omega))
              replace hE := hE.step ho17 (by first | omega | (simp only [blk_some, hi1_some] at *; omega))
              simp only [List.nil_append] at hcl ⊢
              have hclr := hcl.rng
              refine st (asS rfl) ?_
              refine rg_end ?_
              refine n_then ?_
              refine wp_seq ?_
              refine rg ?_
              refine st (mvS rfl) ?_
              refine st (mvI rfl) ?_
              refine st (y_ix hcl.sl sl22 rfl (rfl) rfl (by omega) (by omega)) ?_
              refine st (y_le hcl.sl na3 rfl (by omega) (by omega) rfl) ?_
              refine st (y_add rfl rfl (by omega)) ?_
              refine st (y_ix hcl.sl sl22 rfl (rfl) rfl (by omega) (by omega)) ?_
              refine sd0 (d_se (j := 0) (e' := (el at_ (t : Int) + 1)) hcl sz3 rfl rfl rfl (by omega) (by omega) (Nat.le_of_ble_eq_true rfl) rfl ?_)
              intro w22 hs24 ho23 hcl'
              have hrhcl := hcl.rng
              clear hcl; have hcl := hcl'; clear hcl'
              have hz25 := ho23.size
              replace hP := hP.out ho23 (by first | omega | (simp only [blk_some, hi1_some] at *; omega))
              replace hA := hA.out ho23 (by first | omega | (simp only [blk_some, hi1_some] at *; omega))
              replace hE := hE.step ho23 (by first | omega | (simp only [blk_some, hi1_some] at *; omega))
              rw [Int.toNat_natCast] at hcl
              replace hcl : Ow 3 encI 1 _ _ w22 acl ccl (nxA at_ t) := hcl
              refine rg_end ?_
              refine n_then ?_
              refine wp_seq ?_
              refine rg ?_
              refine st (mvS rfl) ?_
              refine st (mvS rfl) ?_
              refine st (mvI rfl) ?_
              refine sc cl29 (ref35_SearchM_ok rows ap cp _ _ (nxA at_ t) acl ccl _ _ at_.length B _ hP hpn (Ow.sl hcl) hln (by rw [nx_len]; omega) (by rw [nx_len])) rfl ?_
              rintro v30 w26 ⟨ad5, c5, l5, n5, e5, e1, rfl, hck1, hsr, hO5, ho27⟩
              have he1 := hck1.of hva (hg.nx ht hmv_) (hel_nx hva hg hnh ht hmv_)
              rw [he1] at hsr
              have hz31 := ho27.size
              replace hP := hP.ext ho27
              replace hA := hA.ext ho27
              replace hE := hE.step ho27 (.inl (Nat.le_refl _))
              replace hcl := hcl.ext ho27
              refine st (mvT rfl) ?_
              refine st (y_ext rfl rfl) ?_
              refine st (y_ext rfl rfl) ?_
              refine st (y_ext rfl rfl) ?_
              refine st (asS rfl) ?_
              refine st (asI rfl) ?_
              refine st (asI rfl) ?_
              refine rg_end ?_
              refine n_then ?_
              refine wp_seq ?_
              refine rg ?_
              refine st (mvI rfl) ?_
              refine st (mvI rfl) ?_
              refine st (asI rfl) ?_
              refine st (asI rfl) ?_
              refine rg_end ?_
              refine n_then ?_
              refine wp_ret ?_
              refine ret2 (v := (.int .i64 _)) (v' := (.int .i64 _)) Try.results30 rfl rfl ?_
              exact ⟨n5, e5, _, rfl, hck, by unfold adF; rw [if_neg (fun q => q hc0), if_neg hrg, if_pos hmv_, Int.toNat_natCast, ← hsr], hE⟩

set_option maxHeartbeats 1000000 in
set_option maxRecDepth 100000 in
theorem dead_Admit_ok (rows : List Pw) (ap : Option Addr) (cp l_ h_ : Nat) (at_ : List Int) (aa : Option Addr) (ca la ha_ : Nat) (tr B : Int) (w : World) (hP : PIn l_ h_ w ap rows) (hpn : (rows.length : Int) ≤ 9223372036854775807) (hA : Ints la ha_ w aa at_) (hln : ∀ r ∈ rows, (r.st.length : Int) ≤ 9223372036854775807 ∧ ∀ s ∈ r.st, (s.pts.length : Int) ≤ 9223372036854775807) (han : (at_.length : Int) ≤ 9223372036854775807) : Cal Try.prog 24 [.slice ap rows.length cp, .slice aa at_.length ca, .int .i64 tr, .int .i64 B] w (fun v w' => ∃ n e e0, v = .tuple #[.int .i64 n, .int .i64 e] ∧ CkR rows at_ e0 ∧ (n, e) = adF rows at_ tr B e0 ∧ Ext w w') := by
  replace hP := hP.full
  replace hA := Ints.full hA
  have hE : Out 0 0 w w := Out.refl _ _ w
  refine enter Try.func24 rfl Try.ntmps24 rfl ?_
  refine wp_seq ?_
  refine rg ?_
  refine st (asI rfl) ?_
  refine st (asI rfl) ?_
  refine rg_end ?_
  refine n_then ?_
  refine wp_seq ?_
  refine wp_seq ?_
  refine rg ?_
  refine st (mvS rfl) ?_
  refine st (mvS rfl) ?_
  refine sc cl31 (dead_Check_ok rows _ _ _ _ at_ _ _ _ _ _ hP hpn hA hln han) rfl ?_
  rintro v5 w1 ⟨e, rfl, hck, ho2⟩
  have hz6 := ho2.size
  replace hP := hP.ext ho2
  replace hA := hA.ext ho2
  replace hE := hE.step ho2 (.inl (Nat.le_refl _))
  refine st (asI rfl) ?_
  refine rg_end ?_
  refine n_then ?_
  refine wp_seq ?_
  refine rg ?_
  refine st (mvI rfl) ?_
  refine st (y_neq rfl rfl) ?_
  refine rg_end ?_
  refine n_then ?_
  refine cnd rfl (fun hc0 => ?_) (fun hc0 => ?_)
  ·
    try simp only [decide_eq_true_eq, decide_eq_false_iff_not, Bool.not_eq_true', Bool.not_eq_false', Bool.and_eq_true, Bool.or_eq_true, Bool.or_eq_false_iff, Bool.cond_true_right, Bool.cond_false_right, Bool.cond_true_left, Bool.cond_false_left, ne_eq, Decidable.not_not, bne_iff_ne, beq_iff_eq, beq_eq_false_iff_ne, Bool.not_true, Bool.not_false] at hc0
    refine wp_seq ?_
    refine rg ?_
    refine st (mvI rfl) ?_
    refine st (asI rfl) ?_
    refine st (asI rfl) ?_
    refine rg_end ?_
    refine n_then ?_
    refine wp_ret ?_
    refine r_then (ret2 (v := (.int .i64 _)) (v' := (.int .i64 _)) Try.results24 rfl rfl ?_)
    exact ⟨0, e, _, rfl, hck, by unfold adF; rw [if_pos hc0], hE⟩
  ·
    try simp only [decide_eq_true_eq, decide_eq_false_iff_not, Bool.not_eq_true', Bool.not_eq_false', Bool.and_eq_true, Bool.or_eq_true, Bool.or_eq_false_iff, Bool.cond_true_right, Bool.cond_false_right, Bool.cond_true_left, Bool.cond_false_left, ne_eq, Decidable.not_not, bne_iff_ne, beq_iff_eq, beq_eq_false_iff_ne, Bool.not_true, Bool.not_false] at hc0
    have hck0 := hck
    rw [hc0] at hck0
    obtain ⟨hva, hg, hnh⟩ := hck0.ok
    have hrl := hva.len
    have hl := hg.len
    have hpe : ∀ u : Nat, u < rows.length → el (pad at_) (u : Int) = el at_ (u : Int) := fun u hu => go_pad hg hu
    have hnh8 : ¬ Hel rows (pad at_) := fun q => hnh (hel_congr hpe q)
    refine wp_skip ?_
    refine n_then ?_
    refine wp_seq ?_
    refine wp_seq ?_
    refine rg ?_
    refine st (mvI rfl) ?_
    refine st (y_lss rfl rfl) ?_
    refine st (mvB rfl) ?_
    refine gspL 23 rfl (fun hg7 => ?_) (fun hg7 => ?_)
    ·
      have hg7n := hg7; try simp only [decide_eq_true_eq, decide_eq_false_iff_not, Bool.not_eq_true', Bool.not_eq_false', Bool.and_eq_true, Bool.or_eq_true, Bool.or_eq_false_iff, Bool.cond_true_right, Bool.cond_false_right, Bool.cond_true_left, Bool.cond_false_left, ne_eq, Decidable.not_not, bne_iff_ne, beq_iff_eq, beq_eq_false_iff_ne, Bool.not_true, Bool.not_false] at hg7n
      refine sts rfl rfl hg7 ?_
      refine sts rfl rfl hg7 ?_
      refine sts rfl rfl hg7 ?_
      refine sts rfl rfl hg7 ?_
      refine st (y_pickT rfl hg7 (v := .bool _) rfl) ?_
      refine st (mvB rfl) ?_
      refine sts rfl rfl rfl ?_
      refine sts rfl rfl rfl ?_
      refine st (y_pickT rfl rfl (v := .bool _) rfl) ?_
      refine st (mvB rfl) ?_
      refine sts rfl rfl rfl ?_
      refine sts rfl rfl rfl ?_
      refine st (y_pickT rfl rfl (v := .bool _) rfl) ?_
      refine rg_end ?_
      refine n_then ?_
      refine cnd rfl (fun hc1 => ?_) (fun hc1 => absurd hc1 (by decide))
      have hrg : tr < 0 ∨ (rows.length : Int) ≤ tr ∨ B < 1 ∨ 1048576 < B := by omega
      refine wp_seq ?_
      refine rg ?_
      refine st (asI rfl) ?_
      refine st (asI rfl) ?_
      refine rg_end ?_
      refine n_then ?_
      refine wp_ret ?_
      refine r_then (ret2 (v := (.int .i64 _)) (v' := (.int .i64 _)) Try.results24 rfl rfl ?_)
      exact ⟨0, 4, _, rfl, hck, by unfold adF; rw [if_neg (fun q => q hc0), if_pos hrg], hE⟩
    ·
      have hg7n := hg7; try simp only [decide_eq_true_eq, decide_eq_false_iff_not, Bool.not_eq_true', Bool.not_eq_false', Bool.and_eq_true, Bool.or_eq_true, Bool.or_eq_false_iff, Bool.cond_true_right, Bool.cond_false_right, Bool.cond_true_left, Bool.cond_false_left, ne_eq, Decidable.not_not, bne_iff_ne, beq_iff_eq, beq_eq_false_iff_ne, Bool.not_true, Bool.not_false] at hg7n
      refine stg rfl rfl hg7 (mvI rfl) ?_
      refine stg rfl rfl hg7 (mvS rfl) ?_
      refine stg rfl rfl hg7 (y_len Try.underlying23 rfl) ?_
      refine stg rfl rfl hg7 (y_geq rfl rfl) ?_
      refine st (y_pickF rfl hg7 (v := .bool _) rfl) ?_
      refine st (mvB rfl) ?_
      refine gspL 29 rfl (fun hg8 => ?_) (fun hg8 => ?_)
      ·
        have hg8n := hg8; try simp only [decide_eq_true_eq, decide_eq_false_iff_not, Bool.not_eq_true', Bool.not_eq_false', Bool.and_eq_true, Bool.or_eq_true, Bool.or_eq_false_iff, Bool.cond_true_right, Bool.cond_false_right, Bool.cond_true_left, Bool.cond_false_left, ne_eq, Decidable.not_not, bne_iff_ne, beq_iff_eq, beq_eq_false_iff_ne, Bool.not_true, Bool.not_false] at hg8n
        refine sts rfl rfl hg8 ?_
        refine sts rfl rfl hg8 ?_
        refine st (y_pickT rfl hg8 (v := .bool _) rfl) ?_
        refine st (mvB rfl) ?_
        refine sts rfl rfl rfl ?_
        refine sts rfl rfl rfl ?_
        refine st (y_pickT rfl rfl (v := .bool _) rfl) ?_
        refine rg_end ?_
        refine n_then ?_
        refine cnd rfl (fun hc1 => ?_) (fun hc1 => absurd hc1 (by decide))
        have hrg : tr < 0 ∨ (rows.length : Int) ≤ tr ∨ B < 1 ∨ 1048576 < B := by omega
        refine wp_seq ?_
        refine rg ?_
        refine st (asI rfl) ?_
        refine st (asI rfl) ?_
        refine rg_end ?_
        refine n_then ?_
        refine wp_ret ?_
        refine r_then (ret2 (v := (.int .i64 _)) (v' := (.int .i64 _)) Try.results24 rfl rfl ?_)
        exact ⟨0, 4, _, rfl, hck, by unfold adF; rw [if_neg (fun q => q hc0), if_pos hrg], hE⟩
      ·
        have hg8n := hg8; try simp only [decide_eq_true_eq, decide_eq_false_iff_not, Bool.not_eq_true', Bool.not_eq_false', Bool.and_eq_true, Bool.or_eq_true, Bool.or_eq_false_iff, Bool.cond_true_right, Bool.cond_false_right, Bool.cond_true_left, Bool.cond_false_left, ne_eq, Decidable.not_not, bne_iff_ne, beq_iff_eq, beq_eq_false_iff_ne, Bool.not_true, Bool.not_false] at hg8n
        refine stg rfl rfl hg8 (mvI rfl) ?_
        refine stg rfl rfl hg8 (y_lss rfl rfl) ?_
        refine st (y_pickF rfl hg8 (v := .bool _) rfl) ?_
        refine st (mvB rfl) ?_
        refine gspL 33 rfl (fun hg9 => ?_) (fun hg9 => ?_)
        ·
          have hg9n := hg9; try simp only [decide_eq_true_eq, decide_eq_false_iff_not, Bool.not_eq_true', Bool.not_eq_false', Bool.and_eq_true, Bool.or_eq_true, Bool.or_eq_false_iff, Bool.cond_true_right, Bool.cond_false_right, Bool.cond_true_left, Bool.cond_false_left, ne_eq, Decidable.not_not, bne_iff_ne, beq_iff_eq, beq_eq_false_iff_ne, Bool.not_true, Bool.not_false] at hg9n
          refine sts rfl rfl hg9 ?_
          refine sts rfl rfl hg9 ?_
          refine st (y_pickT rfl hg9 (v := .bool _) rfl) ?_
          refine rg_end ?_
          refine n_then ?_
          refine cnd rfl (fun hc1 => ?_) (fun hc1 => absurd hc1 (by decide))
          have hrg : tr < 0 ∨ (rows.length : Int) ≤ tr ∨ B < 1 ∨ 1048576 < B := by omega
          refine wp_seq ?_
          refine rg ?_
          refine st (asI rfl) ?_
          refine st (asI rfl) ?_
          refine rg_end ?_
          refine n_then ?_
          refine wp_ret ?_
          refine r_then (ret2 (v := (.int .i64 _)) (v' := (.int .i64 _)) Try.results24 rfl rfl ?_)
          exact ⟨0, 4, _, rfl, hck, by unfold adF; rw [if_neg (fun q => q hc0), if_pos hrg], hE⟩
        ·
          have hg9n := hg9; try simp only [decide_eq_true_eq, decide_eq_false_iff_not, Bool.not_eq_true', Bool.not_eq_false', Bool.and_eq_true, Bool.or_eq_true, Bool.or_eq_false_iff, Bool.cond_true_right, Bool.cond_false_right, Bool.cond_true_left, Bool.cond_false_left, ne_eq, Decidable.not_not, bne_iff_ne, beq_iff_eq, beq_eq_false_iff_ne, Bool.not_true, Bool.not_false] at hg9n
          refine stg rfl rfl hg9 (mvI rfl) ?_
          refine stg rfl rfl hg9 (y_gtr rfl rfl) ?_
          refine st (y_pickF rfl hg9 (v := .bool _) rfl) ?_
          refine rg_end ?_
          refine n_then ?_
          refine cnd rfl (fun hc1 => ?_) (fun hc1 => ?_)
          ·
            try simp only [decide_eq_true_eq, decide_eq_false_iff_not, Bool.not_eq_true', Bool.not_eq_false', Bool.and_eq_true, Bool.or_eq_true, Bool.or_eq_false_iff, Bool.cond_true_right, Bool.cond_false_right, Bool.cond_true_left, Bool.cond_false_left, ne_eq, Decidable.not_not, bne_iff_ne, beq_iff_eq, beq_eq_false_iff_ne, Bool.not_true, Bool.not_false] at hc1
            have hrg : tr < 0 ∨ (rows.length : Int) ≤ tr ∨ B < 1 ∨ 1048576 < B := by omega
            refine wp_seq ?_
            refine rg ?_
            refine st (asI rfl) ?_
            refine st (asI rfl) ?_
            refine rg_end ?_
            refine n_then ?_
            refine wp_ret ?_
            refine r_then (ret2 (v := (.int .i64 _)) (v' := (.int .i64 _)) Try.results24 rfl rfl ?_)
            exact ⟨0, 4, _, rfl, hck, by unfold adF; rw [if_neg (fun q => q hc0), if_pos hrg], hE⟩
          ·
            try simp only [decide_eq_true_eq, decide_eq_false_iff_not, Bool.not_eq_true', Bool.not_eq_false', Bool.and_eq_true, Bool.or_eq_true, Bool.or_eq_false_iff, Bool.cond_true_right, Bool.cond_false_right, Bool.cond_true_left, Bool.cond_false_left, ne_eq, Decidable.not_not, bne_iff_ne, beq_iff_eq, beq_eq_false_iff_ne, Bool.not_true, Bool.not_false] at hc1
            have hrg : ¬ (tr < 0 ∨ (rows.length : Int) ≤ tr ∨ B < 1 ∨ 1048576 < B) := by omega
            obtain ⟨t, rfl⟩ := Int.eq_ofNat_of_zero_le (show 0 ≤ tr by omega)
            have ht : t < rows.length := by omega
            have hgt := hg.rng t ht
            have hl2 := (va_row hva (k := t) (by omega)).l2
            refine wp_skip ?_
            refine n_then ?_
            refine wp_seq ?_
            refine wp_seq ?_
            refine rg ?_
            refine st (mvS rfl) ?_
            refine st (mvS rfl) ?_
            refine sc cl37 (dead_newState_ok rows _ _ _ _ at_ _ _ _ _ _ hP hpn hA hva hg) rfl ?_
            rintro v14 w10 ⟨bst, H, rfl, hbz, hbst, hHq, ho11⟩
            have hbl := hbst.lt
            have hz15 := ho11.size
            replace hP := hP.ext ho11
            replace hA := hA.ext ho11
            replace hE := hE.step ho11 (.inl (Nat.le_refl _))
            refine st (mvI rfl) ?_
            refine sc cl40 (dead_canMove_ok rows ap cp _ _ bst (pad at_) H t _ hP hbst hva (by omega) (pad_len (by omega)) hHq.len ht (by rw [hpe t ht]; exact hgt) hHq hnh8) rfl ?_
            rintro v20 w16 ⟨rfl, ho17⟩
            rw [movB_congr hpe ht]
            have hz21 := ho17.size
            replace hP := hP.ext ho17
            replace hA := hA.ext ho17
            replace hE := hE.step ho17 (.inl (Nat.le_refl _))
            replace hbst := hbst.ext ho17
            refine st (y_not rfl) ?_
            refine rg_end ?_
            refine n_then ?_
            refine cnd rfl (fun hc2 => ?_) (fun hc2 => ?_)
            ·
              try simp only [decide_eq_true_eq, decide_eq_false_iff_not, Bool.not_eq_true', Bool.not_eq_false', Bool.and_eq_true, Bool.or_eq_true, Bool.or_eq_false_iff, Bool.cond_true_right, Bool.cond_false_right, Bool.cond_true_left, Bool.cond_false_left, ne_eq, Decidable.not_not, bne_iff_ne, beq_iff_eq, beq_eq_false_iff_ne, Bool.not_true, Bool.not_false] at hc2
              refine wp_seq ?_
              refine rg ?_
              refine st (asI rfl) ?_
              refine st (asI rfl) ?_
              refine rg_end ?_
              refine n_then ?_
              refine wp_ret ?_
              refine r_then (ret2 (v := (.int .i64 _)) (v' := (.int .i64 _)) Try.results24 rfl rfl ?_)
              exact ⟨0, 16, _, rfl, hck, by unfold adF; rw [if_neg (fun q => q hc0), if_neg hrg, if_neg (by rw [hc2]; decide)], hE⟩
            ·
              try simp only [decide_eq_true_eq, decide_eq_false_iff_not, Bool.not_eq_true', Bool.not_eq_false', Bool.and_eq_true, Bool.or_eq_true, Bool.or_eq_false_iff, Bool.cond_true_right, Bool.cond_false_right, Bool.cond_true_left, Bool.cond_false_left, ne_eq, Decidable.not_not, bne_iff_ne, beq_iff_eq, beq_eq_false_iff_ne, Bool.not_true, Bool.not_false] at hc2
              have hmv_ : movB rows at_ (t : Int) = true := hc2
              have hlt := movB_lt hmv_
              refine wp_skip ?_
              refine n_then ?_
              refine wp_seq ?_
              refine rg ?_
              refine st (mvS rfl) ?_
              refine sc cl41 (clone_I_ok aa ca at_ _ _ _ hA (by omega)) rfl ?_
              rintro v26 w22 ⟨acl, ccl, rfl, hcl, ho23⟩
              have hclr := hcl.rng
              have hz27 := ho23.size
              replace hP := hP.ext ho23
              replace hA := hA.ext ho23
              replace hE := hE.step ho23 (.inl (Nat.le_refl _))
              replace hbst := hbst.ext ho23
              refine st (asS rfl) ?_
              refine rg_end ?_
              refine n_then ?_
              refine wp_seq ?_
              refine rg ?_
              refine st (mvS rfl) ?_
              refine st (mvI rfl) ?_
              refine st (y_ix hcl.sl sl22 rfl (rfl) rfl (by omega) (by omega)) ?_
              refine st (y_le hcl.sl na3 rfl (by omega) (by omega) rfl) ?_
              refine st (y_add rfl rfl (by omega)) ?_
              refine st (y_ix hcl.sl sl22 rfl (rfl) rfl (by omega) (by omega)) ?_
              refine sd0 (d_se (j := 0) (e' := (el at_ (t : Int) + 1)) hcl sz3 rfl rfl rfl (by omega) (by omega) (Nat.le_of_ble_eq_true rfl) rfl ?_)
              intro w28 hs30 ho29 hcl'
              have hrhcl := hcl.rng
              clear hcl; have hcl := hcl'; clear hcl'
              have hz31 := ho29.size
              replace hP := hP.out ho29 (by first | omega | (simp only [blk_some, hi1_some] at *; omega))
              replace hA := hA.out ho29 (by first | omega | (simp only [blk_some, hi1_some] at *; omega))
              replace hE := hE.step ho29 (by first | omega | (simp only [blk_some, hi1_some] at *; omega))
              replace hbst := hbst.out ho29 (by first | omega | (simp only [blk_some, hi1_some] at *; omega))
              rw [Int.toNat_natCast] at hcl
              replace hcl : Ow 3 encI 1 _ _ w28 acl ccl (nxA at_ t) := hcl
              refine rg_end ?_
              refine n_then ?_
              refine wp_seq ?_
              refine rg ?_
              refine st (mvS rfl) ?_
              refine st (mvS rfl) ?_
              refine st (mvI rfl) ?_
              refine sc cl17 (dead_SearchM_ok rows ap cp _ _ (nxA at_ t) acl ccl _ _ at_.length B _ hP hpn (Ow.sl hcl) hln (by rw [nx_len]; omega) (by rw [nx_len])) rfl ?_
              rintro v36 w32 ⟨ad5, c5, l5, n5, e5, e1, rfl, hck1, hsr, hO5, ho33⟩
              have he1 := hck1.of hva (hg.nx ht hmv_) (hel_nx hva hg hnh ht hmv_)
              rw [he1] at hsr
              have hz37 := ho33.size
              replace hP := hP.ext ho33
              replace hA := hA.ext ho33
              replace hE := hE.step ho33 (.inl (Nat.le_refl _))
              replace hbst := hbst.ext ho33
              replace hcl := hcl.ext ho33
              refine st (mvT rfl) ?_
              refine st (y_ext rfl rfl) ?_
              refine st (y_ext rfl rfl) ?_
              refine st (y_ext rfl rfl) ?_
              refine st (asS rfl) ?_
              refine st (asI rfl) ?_
              refine st (asI rfl) ?_
              refine rg_end ?_
              refine n_then ?_
              refine wp_seq ?_
              refine rg ?_
              refine st (mvI rfl) ?_
              refine st (mvI rfl) ?_
              refine st (asI rfl) ?_
              refine st (asI rfl) ?_
              refine rg_end ?_
              refine n_then ?_
              refine wp_ret ?_
              refine ret2 (v := (.int .i64 _)) (v' := (.int .i64 _)) Try.results24 rfl rfl ?_
              exact ⟨n5, e5, _, rfl, hck, by unfold adF; rw [if_neg (fun q => q hc0), if_neg hrg, if_pos hmv_, Int.toNat_natCast, ← hsr], hE⟩
end Go.Proofs.Yteicgnmggkhlbaa
